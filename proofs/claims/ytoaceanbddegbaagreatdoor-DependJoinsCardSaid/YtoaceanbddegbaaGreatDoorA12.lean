/-
  Contracts of the functions that the statement reaches, and the logic in which they are proved (no condition): parts W83, W84, W72, SpecD4, W73, S5, SpecD5, W74, Core46, SpecD6, W85, Core47, S6, W86, SpecD7, W87, Core35, Core37.
-/
import Derived.Test.YtoaceanbddegbaaGreatDoorA11
set_option linter.all false
namespace Go.T
open Go Go.Proofs Go.Proofs.Tryz
set_option maxRecDepth 20000
theorem Ya:Fc Tryz.prog 204 [bc []] (bc []):=by
 refine bE func204 ntmps204 results204 ?_;refine U.seq<|rg<|.ag rfl rfl<|.nil<|U.seq (U.seq (U.wo ?_));refine Tx.q rfl trivial (bG rfl _)<|Tx.n rfl trivial (Uc underlying188 rfl rfl _) (fun nb dz=>?_);dsimp only;refine Tx.nil<|U.cond rfl (fun h1=>?_) (fun h1=>?_)
 ·refine U.seq<|rg<|.ag rfl rfl<|.nil<|U.ret (?_);exact bS rfl (by exact Sub.nil _ false)
 ·refine U.skip<|U.seq<|rg<|.P rfl (rR underlying188 sizeOf243)<|.mv rfl rfl<|.P rfl (ah' underlying188 underlying188 sizeOf243 rfl rfl)<|.ag rfl rfl<|.nil<|U.ret (?_);exact bS rfl (by exact Sub.tv _ _ _)
structure agb where
 u:Unit
theorem aga:Fc Tryz.prog 156 [bc [],bc []] (bc []):=by
 refine bE func156 ntmps156 results156 ?_;refine go []<|oP (aj call204 rfl Ya)<|U.loop (ι:=agb) (fun sx=>[(5,bc []),(6,.raw (.int .u64 ((0:Nat):Int))),(12,.i 0),(13,.i 0),(1,bc [])]) (fun sx=>[]) (fun sx=>0) ⟨()⟩ ?_ ?_
 ·exact Le.mk rfl (.n 5 rfl rfl .nil) .nil
 ·rintro⟨u⟩;try dsimp only
  skip
  ·skip;exact go []<|aQ zS<|go []<|oP (aj call158 rfl (si []))<|an rfl (Sub.refl _)
theorem agc(x:List Nat)(vJ:x.length≤20000)(nE:aU x):Fc Tryz.prog 156 [bc x,bc []] (bc (bp (gK x [] 0))):=by
 by_cases h:x.length≠0
 ·exact Fv x [] h vJ zS nE (fun _ h=>by simp at h)
 ·obtain rfl:x=[]:=List.length_eq_zero_iff.1 zO;exact aga
theorem Wv(n1:Bool)(x:List Nat)(k1:pq n1 x)(hx:x.length≤9000):Fc Tryz.prog 108 [.agg (pN n1 x),.agg (pN true [])] (.agg (pN (jk n1 x true []).1 (jk n1 x true []).2)):=by
 refine Fc.j2 func108 rfl ntmps108 rfl rfl rfl ?_;refine go [99999]<|br (fun h1=>?_) (fun h1=>?_)
 ·refine oP (aj call154 rfl (Lc x [] zO zS k1.ok (fun _ h=>by simp at h)))<|ord<|U.ret (?_);exact Rd.cA results108 isAgg190 sizeOf190 rfl rfl rfl (Sub.agg (.cons (Sub.bool (by unfold jk;(rw[if_pos zA];done))) (.cons (Sub.snap (by unfold jk;(rw[if_pos zA];done))) .nil)))
 ·refine oP (aj call155 rfl (yP x [] zO zS))<|aQ (by simpa using D0 x)<|oP (aj call156 rfl (agc x zO k1.ok))<|ord<|U.ret (?_);exact Rd.cA results108 isAgg190 sizeOf190 rfl rfl rfl (Sub.agg (.cons (Sub.bool (by unfold jk;(rw[if_neg (by simpa using ‹(n1==true)=false›),if_neg (D0 x)];done))) (.cons (Sub.snap (by unfold jk;(rw[if_neg (by simpa using ‹(n1==true)=false›),if_neg (D0 x)];done))) .nil)))
theorem akw(s t:ae)(hs:s.length≤4000)(ht:t.length≤4000)(hv:val t=0):Fc Tryz.prog 316 [.str s,.str t] (.str (ofInt (val s-val t))):=by
 refine bE func316 ntmps316 results316 ?_;have qz:=m_ s;have dH:=ru (digits s).1;have h1:=oB s;have h3:=Wu h1;have e0:(val t).natAbs=0:=by omega
 have e1:decide (val t<0)=false:=by simp;omega
 have QT:=yj t zO;rw[e0,e1,qO]at QT;exact go []<|oP (aj call109 rfl QT)<|oP (aj call109 rfl (uK s zO))<|oP (aj call108 rfl (Wv (digits s).2 (gu (digits s).1) h1 zO))<|oP (aj call110 rfl (AS _ _ h3.1 zO))<|ord<|an rfl (Sub.str (by rw[Dl _ h3.1,show val s-val t=val s by omega,←nN s,←h3.2.1];rfl))
theorem aky(s t:ae)(hs:s.length≤4000)(ht:t.length≤4000)(hv:val t≠0):Fc Tryz.prog 316 [.str s,.str t] (.str (ofInt (val s-val t))):=by
 refine bE func316 ntmps316 results316 ?_;have qz:=m_ s;have dH:=ru (digits s).1;have Qk:=m_ t;have Qv:=ru (digits t).1;have h1:=oB s;have h2:=agD hv;have h3:=MG h1 h2;have h4:=MF (digits s).2 (!(digits t).2) (gu (digits s).1) (gu (digits t).1);have h5:=MH h1 h2;exact go []<|oP (aj call109 rfl (uK t zO))<|oP (aj call109 rfl (uK s zO))<|oP (aj call108 rfl (MI (digits s).2 (gu (digits s).1) (!(digits t).2) (gu (digits t).1) h1 h2 zO zO))<|oP (aj call110 rfl (AS _ _ h3 zO))<|ord<|an rfl (Sub.str (by rw[Dl _ h3];have h6:=agE t;rw[h6,nN s]at h5;rw[show val s-val t=val s+-val t by omega,←h5];rfl))
theorem akz(s t:ae)(hs:s.length≤4000)(ht:t.length≤4000):Fc Tryz.prog 316 [.str s,.str t] (.str (ofInt (val s-val t))):=by
 by_cases h:val t=0
 ·exact akw s t hs ht h
 ·exact aky s t hs ht h
theorem FX(f:cF)(hs:f.den.length≤4000):Fc Tryz.prog 227 [.agg (iL f)] (.bl [.str (eW f).1,.str (eW f).2]):=by
 refine pO func227 ntmps227 results227 ?_;refine go []<|oP (aj call119 rfl (yQ f.den [] hs zS))<|br (fun h1=>?_) (fun h1=>?_)
 ·exact p9 rfl rfl (Sub.str (by unfold eW;rw[if_pos h1])) (Sub.str (by unfold eW;rw[if_pos h1]))
 ·exact ord<|p9 rfl rfl (Sub.str (by unfold eW;rw[if_neg (by rw[h1];simp)])) (Sub.str (by unfold eW;rw[if_neg (by rw[h1];simp)]))
theorem aiX(n d:ae)(hn:n.length≤3000)(hd:d.length≤3000)(h0:val d≠0):Fc Tryz.prog 288 [.str n,.str d] (.bl [.str (ofInt (l6 (val n) (val d)).1),.str (ofInt (l6 (val n) (val d)).2)]):=by
 refine pO func288 ntmps288 results288 ?_;have hnn:=Tg n;have fB:=Tg d;have ns:=Pr (val n) h0;have qA:=abL (val (ofInt (-val n))) h0;refine go []<|oP (aj call119 rfl (yQ d [] zO zS))<|br (fun h1=>?_) (fun h1=>?_)
 ·exact oP (aj call319 rfl (Tf _ zO))<|oP (aj call319 rfl (Tf _ zO))<|oP (aj call320 rfl (Pt _ _ zO zO))<|oP (aj call321 rfl (D9 _ _ zO zO (by exact Ps _ h0)))<|oP (aj call321 rfl (D9 _ _ zO zO (by exact Ps _ h0)))<|p9 rfl rfl (Sub.str (by(have h9:=Up (n:=n) (d:=d) h1;exact h9.1))) (Sub.str (by(have h9:=Up (n:=n) (d:=d) h1;exact h9.2)))
 ·exact oP (aj call320 rfl (Pt _ _ zO zO))<|oP (aj call321 rfl (D9 _ _ zO zO (by exact Iv _ h0)))<|oP (aj call321 rfl (D9 _ _ zO zO (by exact Iv _ h0)))<|p9 rfl rfl (Sub.str (by(have h9:=Uo (n:=n) (d:=d) h1;exact h9.1))) (Sub.str (by(have h9:=Uo (n:=n) (d:=d) h1;exact h9.2)))
theorem Ke(n d:ae)(hn:n.length≤3000)(hd:d.length≤3000)(h0:val d≠0):Fc Tryz.prog 229 [.str n,.str d] (.agg (iL (j1 (val n) (val d)))):=by
 refine Fc.j2 func229 rfl ntmps229 rfl rfl rfl ?_;refine go [99999]<|oP (aj call288 rfl (aiX _ _ zA zA zA))<|br (fun h1=>?_) (fun h1=>?_)
 ·refine U.ret (?_);exact Rd.cA results229 isAgg75 sizeOf75 rfl rfl rfl (Sub.agg (.r (.cons (Sub.str (by exact afB h1)) .nil)))
 ·refine U.ret (?_);exact Rd.cA results229 isAgg75 sizeOf75 rfl rfl rfl (Sub.agg (.r (.cons (Sub.str (by exact afC h1)) .nil)))
theorem Ph(f:cF)(hs:mO f):Fc Tryz.prog 189 [.agg (iL f)] (.i (Ba f)):=by
 refine bE func189 ntmps189 results189 ?_;have hp:=L1 (f:=f) (g:=f) ⟨hs.1,hs.2⟩ ⟨hs.1,hs.2⟩ zD;refine go []<|oP (aj call227 rfl (FX f (Nat.le_trans hs.2 zD)))<|oP (aj call229 rfl (Ke _ _ zO zO (CQ f)))<|oP (F8 (xs:=[f.num,f.den]) (ys:=[(j1 (val (eW f).1) (val (eW f).2)).num,(j1 (val (eW f).1) (val (eW f).2)).den]) underlying75 (by kernel_rfl) (by kernel_rfl) (.cons zK underlying37 isAgg37 rfl (.cons zK underlying37 isAgg37 rfl (.nil _))) rfl rfl rfl rfl rfl rfl)<|ord<|br (fun h1=>?_) (fun h1=>?_)
 ·exact an rfl (Sub.int (by unfold Ba;rw[if_neg (X_ h1)]))
 ·exact an rfl (Sub.int (by unfold Ba;rw[if_pos (X9 h1)]))
theorem abw(a:ae)(hs:a.length≤3000):Fc Tryz.prog 191 [.str a] (.agg (iL (j1 (val a) (val [49])))):=by
 refine Fc.j2 func191 rfl ntmps191 rfl rfl rfl ?_;refine go [99999]<|oP (aj call229 rfl (Ke a [49] hs zS zD))<|U.ret (?_);exact Rd.cA results191 isAgg75 sizeOf75 rfl rfl rfl (Sub.agg (.r (.r .nil)))
structure ad0(s:ae)where
 pre:List UInt8
 rest:List UInt8
 hx:s=pre++rest
 hp:pre.all (fun c=>65≤c.toNat&&c.toNat≤90)=true
 h3:s.length=3
theorem Rj(s:ae):Fc Tryz.prog 181 [.str s] (.b (ig s)):=by
 refine bE func181 ntmps181 results181 ?_;refine U.qh 0 rfl (fun hb=>?_);simp only[aH]at hb;refine go []<|br (fun h1=>?_) (fun h1=>?_)
 ·exact an rfl (Sub.bool (by grind[ig]))
 ·refine oP (T_ (u:=.string) underlying9 underlying217 underlying5 rfl)<|U.loop (ι:=ad0 s) (fun sx=>[(9,.snap 1 false (s.map fun c=>[.raw (.int .u8 (UInt8.toNat c:Int))])),(10,.i s.length),(11,.i sx.pre.length)]) (fun sx=>[]) (fun sx=>sx.rest.length) ⟨[],s,rfl,rfl,by simp at h1;omega⟩ ?_ ?_
  ·exact Le.mk rfl (.s rfl rfl (.cons rfl (Sub.int zS) rfl (.s rfl rfl .nil))) .nil
  ·rintro⟨pre,rest,hx,hp,h3⟩;dsimp only;rcases lc hx with⟨rfl,hl⟩|⟨x,rest,rfl,hl⟩
   ·skip;exact go []<|aQ (by simp at hl⊢;omega)<|go []<|an rfl (Sub.bool (by grind[ig]))
   ·refine go []<|bM zQ<|ix zO (bb (fun c=>[D.raw (.int .u8 (UInt8.toNat c:Int))]) hx rfl)<|br (fun h2=>?_) (fun h2=>?_)
    ·exact an rfl (Sub.bool (by grind[ig]))
    ·exact sd (aB zO)<|nx ⟨pre++[x],rest,by simp[hx],by grind,h3⟩ zS (Le.mk rfl (.n 2 rfl rfl (.cons rfl (Sub.int zS) rfl .nil)) .nil)
theorem uR(f:cF)(hs:f.num.length≤60):Fc Tryz.prog 284 [.agg (iL f)] (.i (sg f)):=by
 refine bE func284 ntmps284 results284 ?_;exact go []<|oP (aj call119 rfl (yQ f.num [] zO zS))<|an rfl (Sub.refl _)
theorem ahG(i:cK)(hs:rX i):Fc Tryz.prog 223 [.agg (mh i)] (.i (TY i)):=by
 refine bE func223 ntmps223 results223 ?_;refine go []<|oP (aj call284 rfl (uR i.oe hs.1.1))<|gP (fun hg=>aj call284 rfl (uR i.oa hs.2.1.1))<|gP (fun hg=>aj call284 rfl (uR i.oN hs.2.2.1))<|br (fun h1=>?_) (fun h1=>?_)
 ·exact an rfl (Sub.int (by exact kh h1))
 ·exact an rfl (Sub.int (by exact dI h1 rfl))
structure adt(l:List Int)(n:Int)where
 pre:List Int
 rest:List Int
 hx:l=pre++rest
 hp:pre.any (fun m=>decide (n=m))=false
theorem ads(l:List Int)(n:Int):Fc Tryz.prog 312 [oK l,.i n] (.i (rn (fun m=>decide (n=m)) l)):=by
 refine bE func312 ntmps312 results312 ?_;refine U.ec 0 rfl (fun hb=>?_);simp only[List.length_map,aH]at hb;refine go []<|U.loop (ι:=adt l n) (fun sx=>[(0,oK l),(1,.i n),(6,oK l),(7,.i l.length),(8,.i sx.pre.length)]) (fun sx=>[]) (fun sx=>sx.rest.length) ⟨[],l,rfl,rfl⟩ ?_ ?_
 ·exact Le.mk rfl (.n 3 rfl rfl (.cons rfl (Sub.int zS) rfl (.s rfl rfl .nil))) .nil
 ·rintro⟨pre,rest,hx,hp⟩;dsimp only;rcases lc hx with⟨rfl,hl⟩|⟨x,rest,rfl,hl⟩
  ·skip;exact go []<|aQ (by simp at hl⊢;omega)<|go []<|an rfl (Sub.int (by exact vo hx hp))
  ·refine go []<|bM zQ<|ix zO (bb (fun n=>[D.i n]) hx rfl)<|br (fun h1=>?_) (fun h1=>?_)
   ·exact an rfl (Sub.int (by exact vp hx hp h1))
   ·exact sd (aB zO)<|nx ⟨pre++[x],rest,by simp[hx],r8 hp h1⟩ zS (Le.mk rfl (.n 4 rfl rfl (.cons rfl (Sub.int zS) rfl .nil)) .nil)
theorem acv(l:List Int)(n:Int):Fc Tryz.prog 285 [oK l,.i n] (.b (l.any (fun m=>decide (n=m)))):=by
 refine bE func285 ntmps285 results285 ?_;exact go []<|oP (aj call312 rfl (ads _ _))<|an rfl (Sub.bool (by exact vm _ l))
theorem Xk(i:cK)(hs:rX i):Fc Tryz.prog 224 [.agg (mh i)] (.i (Nd i)):=by
 refine bE func224 ntmps224 results224 ?_;refine go [2] ?_;refine U.bC (Le.h_ 1 0 rfl rfl rfl rfl) ?_;refine U.bC (Le.h_ 3 1 rfl rfl rfl rfl) ?_;refine go []<|oP (aj call284 rfl (uR i.oe hs.1.1))<|gP (fun hg=>aj call284 rfl (uR i.oa hs.2.1.1))<|gP (fun hg=>aiH (rows:=[[D.i 1],[D.i 2],[D.i 3],[D.i 4],[D.i 6],[D.i 12]]) underlying351 sizeOf3 rfl zD zD rfl rfl rfl zD)<|gP (fun hg=>aj call285 rfl (acv [1,2,3,4,6,12] i.Cu).sub)<|ord<|br (fun h1=>?_) (fun h1=>?_)
 ·exact an rfl (Sub.int (by exact kh h1))
 ·refine gP (fun hg=>aj call284 rfl (uR i.oN hs.2.2.1))<|br (fun h2=>?_) (fun h2=>?_)
  ·exact an rfl (Sub.int (by exact dI h1 (kh h2)))
  ·exact go [2]<|an rfl (Sub.int (by exact dI h1 (dI h2 rfl)))
theorem abB(i:cK)(hs:rX i):Fc Tryz.prog 225 [.agg (mh i)] (.i (Pp i)):=by
 refine bE func225 ntmps225 results225 ?_;refine go []<|oP (aj call181 rfl (Rj _))<|br (fun h1=>?_) (fun h1=>?_)
 ·exact an rfl (Sub.int (by exact kh h1))
 ·refine oP (aj call284 rfl (uR i.oN hs.2.2.1))<|br (fun h2=>?_) (fun h2=>?_)
  ·exact an rfl (Sub.int (by exact dI h1 (kh h2)))
  ·refine oP (aj call284 rfl (uR i.oe hs.1.1))<|gP (fun hg=>aj call284 rfl (uR i.oa hs.2.1.1))<|br (fun h3=>?_) (fun h3=>?_)
   ·exact an rfl (Sub.int (by exact dI h1 (dI h2 (kh h3))))
   ·exact an rfl (Sub.int (by exact dI h1 (dI h2 (dI h3 rfl))))
theorem N1(a:ae):Fc Tryz.prog 226 [.str a] (.i (Bf a)):=by
 refine bE func226 ntmps226 results226 ?_;refine U.qh 0 rfl (fun hb=>?_);simp only[aH]at hb;refine go []<|Rq (fun hg=>And.intro zD (acF (by simpa[yB]using hg)))<|br (fun h1=>?_) (fun h1=>?_)
 ·exact sd (aB zO)<|an rfl (Sub.int (by unfold Bf;rw[if_pos h1]))
 ·exact an rfl (Sub.int (by unfold Bf;rw[if_neg (by rw[h1];simp)]))
theorem agC(f:cF)(hs:mO f):Fc Tryz.prog 184 [.agg (iL f)] (.i (An f)):=by
 refine bE func184 ntmps184 results184 ?_;refine go []<|oP (aj call189 rfl (Ph _ zA))<|br (fun h1=>?_) (fun h1=>?_)
 ·exact an rfl (Sub.int (by exact kh h1))
 ·refine oP (aj call226 rfl (N1 _))<|oP (aj call226 rfl (N1 _))<|ord<|br (fun h2=>?_) (fun h2=>?_)
  ·exact an rfl (Sub.int (by exact dI h1 (kh h2)))
  ·exact an rfl (Sub.int (by exact dI h1 (dI h2 rfl)))
theorem ad4(x:cK)(id:ae):Fc Tryz.prog 186 [.agg (mh x),.bz [.str id]] (.b (decide (x.id=id))):=by
 refine bE func186 ntmps186 results186 ?_;exact go []<|an rfl (Sub.refl _)
structure adr(l:List cK)(P:cK→Bool)where
 pre:List cK
 rest:List cK
 hx:l=pre++rest
 hp:pre.any P=false
theorem adq(l:List cK)(f:FuncId)(bx:List D)(ct:D.bk.dw bx=true)(P:cK→Bool)(fy:∀(args:Array Value)(w:World),(callFunc f args).run Tryz.prog w=.ok (.enter f args) w)(hP:∀x∈l,Fc Tryz.prog f (.agg (mh x)::bx) (.b (P x))):Fc Tryz.prog 185 [uP l,.fn (.func f) [] bx] (.i (rn P l)):=by
 refine Fc.mk' [4] func185 rfl ntmps185 rfl (by simp[D.bk,D.bk.dw,ct]) rfl (fun t w=>results_tmp results185 t _ w) ?_;refine U.ec 0 rfl (fun hb=>?_);simp only[List.length_map,aH]at hb;refine go []<|U.loop (ι:=adr l P) (fun sx=>[(0,uP l),(1,.fn (.func f) [] bx),(6,uP l),(7,.i l.length),(8,.i sx.pre.length)]) (fun sx=>[]) (fun sx=>sx.rest.length) ⟨[],l,rfl,rfl⟩ ?_ ?_
 ·exact Le.mk rfl (.s rfl rfl (.cons rfl (Sub.refl _) (pr ct) (.s rfl rfl (.cons rfl (Sub.int zS) rfl (.s rfl rfl .nil))))) .nil
 ·rintro⟨pre,rest,hx,hp⟩;dsimp only;rcases lc hx with⟨rfl,hl⟩|⟨x,rest,rfl,hl⟩
  ·skip;exact go []<|aQ (by simp at hl⊢;omega)<|go []<|an rfl (Sub.int (by exact vo hx hp))
  ·refine go []<|bM zQ<|ix zO (bb mh hx rfl)<|oP (cR fy rfl rfl (hP x (by rw[hx];simp)))<|br (fun h1=>?_) (fun h1=>?_)
   ·exact an rfl (Sub.int (by exact vp hx hp h1))
   ·exact sd (aB zO)<|nx ⟨pre++[x],rest,by simp[hx],r8 hp h1⟩ zS (Le.mk rfl (.s rfl rfl (.cons rfl (Sub.refl _) (pr ct) (.n 2 rfl rfl (.cons rfl (Sub.int zS) rfl .nil)))) .nil)
theorem abq(l:List cK)(id:ae):Fc Tryz.prog 131 [uP l,.str id] (.bl [.i (max (rn (fun x=>decide (x.id=id)) l) 0),.b (l.any (fun x=>decide (x.id=id)))]):=by
 refine pO func131 ntmps131 results131 ?_;refine go [1] ?_;refine U.bC (Le.h_ 3 0 rfl rfl rfl rfl) ?_;exact go []<|oP (aj call185 rfl (adq l _ [.bz [.str id]] rfl (fun x=>decide (x.id=id)) call186 (fun x _=>ad4 x id)))<|p9 rfl rfl (Sub.refl _) (Sub.bool (by exact vm _ l))
end Go.T
namespace Go.T
open Go
theorem Sy{α:Type}{a b c x:α}{pre rest:List α}(hx:[a,b,c]=pre++x::rest):x=a∨x=b∨x=c:=by
 have:x∈[a,b,c]:=by rw[hx];simp
 simpa using this
def Eh(k:Int):Bool:=decide (k=2)||decide (k=5)
def C3(k:Int)(i:cK):Int:=if k=2 then Nd i else if k=5 then Pp i else TY i
def afN(i:cK):Bool:=decide (i.Cs≠0)&&(!Mc i.Cs||decide (i.Cs≤i.Fb))||decide (i.Cs=0)&&Eh i.kind
def pY(d:Int):List cF→Int
 |[]=>d
 |f::r=>if decide (An f≠0)=true then An f else pY d r
def ov(i:cK):Int:=
 if(!isName i.id)=true then 23 else if(decide (i.kind<1)||decide (5<i.kind))=true then 7 else if(!ig i.cur)=true then 12
 else if(decide (i.places<0)||decide (12<i.places))=true then 2 else if(!Mc i.Fb)=true then 13 else if afN i=true then 13 else pY (C3 i.kind i) [i.oe,i.oa,i.oN]
theorem agH{d:Int}{l rest:List cF}{x:cF}(h:pY d l=pY d (x::rest))(k:decide (An x≠0)=true):An x=pY d l:=by rw[h,pY,if_pos k]
theorem agG{d:Int}{l rest:List cF}{x:cF}(h:pY d l=pY d (x::rest))(k:decide (An x≠0)=false):pY d l=pY d rest:=by rw[h,pY,if_neg (by rw[k];simp)]
def qj(i:cK):List ae:=if i.kind=5 then[i.cur,i.other]else[i.cur]
def J0(i:cK)(t:List dB):Int:=if(qj i).any (fun c=>!(nn c t).2)=true then 12 else 0
def sT(pre:List cK)(x:cK)(t:List dB):Int:=if decide (ov x≠0)=true then ov x else if pre.any (fun y=>decide (y.id=x.id))=true then 5 else J0 x t
def uk(t:List dB)(pre:List cK):List cK→Int
 |[]=>0
 |x::r=>if decide (sT pre x t≠0)=true then sT pre x t else uk t (pre++[x]) r
def ri(l:List cK)(t:List dB):Int:=if decide (se t≠0)=true then 1 else if decide (64<(l.length:Int))=true then 4 else uk t [] l
theorem adJ{pre:List cK}{x:cK}{t:List dB}(h:decide (ov x≠0)=true):sT pre x t=ov x:=by rw[sT,if_pos h]
theorem adK{pre:List cK}{x:cK}{t:List dB}(h:decide (ov x≠0)=false)(h2:pre.any (fun y=>decide (y.id=x.id))=true):sT pre x t=5:=by rw[sT,if_neg (by rw[h];simp),if_pos h2]
theorem Ra{pre:List cK}{x:cK}{t:List dB}(h:decide (ov x≠0)=false)(h2:pre.any (fun y=>decide (y.id=x.id))=false):sT pre x t=J0 x t:=by rw[sT,if_neg (by rw[h];simp),if_neg (by rw[h2];simp)]
theorem JX{l pre rest:List cK}{x:cK}{t:List dB}{n:Int}(h:ri l t=uk t pre (x::rest))(he:sT pre x t=n)(hn:decide (n≠0)=true):n=ri l t:=by rw[h,uk,he,if_pos hn]
theorem adS{l pre rest:List cK}{x:cK}{t:List dB}{n:Int}(h:ri l t=uk t pre (x::rest))(he:sT pre x t=n)(hn:decide (n≠0)=false):ri l t=uk t (pre++[x]) rest:=by
 rw[h,uk,he,if_neg (by rw[hn];simp)]
theorem adR{l:List cK}{t:List dB}(h1:decide (se t≠0)=false)(h2:decide (64<(l.length:Int))=false):ri l t=uk t [] l:=by rw[ri,if_neg (by rw[h1];simp),if_neg (by rw[h2];simp)]
open Go.Proofs Go.Proofs.Tryz
set_option maxRecDepth 20000
theorem ajk:Fc Tryz.prog 183 [] (.agg [.b false,.raw .nilFunc,.b false,.fn (.func 223) [] [],.b true,.fn (.func 224) [] [],.b false,.fn (.func 223) [] [],.b false,.fn (.func 223) [] [],.b true,.fn (.func 225) [] []]):=by
 refine Fc.j2 func183 rfl ntmps183 rfl rfl rfl ?_;refine go [99999]<|U.ret (?_);exact Rd.cA results183 isAgg276 sizeOf276 rfl rfl rfl (Sub.agg (.r (.cons (Sub.refl _) (.r (.cons (Sub.refl _) (.r (.cons (Sub.refl _) (.r (.cons (Sub.refl _) (.r (.cons (Sub.refl _) (.r (.r .nil)))))))))))))
def vt(k:Int):FuncId:=if k=2 then 224 else if k=5 then 225 else 223
theorem ajl{k:Int}(h1:1≤k)(h5:k≤5):(List.drop (k.toNat*2) [D.b false,D.raw .nilFunc,D.b false,D.fn (.func 223) [] [],D.b true,D.fn (.func 224) [] [],D.b false,D.fn (.func 223) [] [],D.b false,D.fn (.func 223) [] [],D.b true,D.fn (.func 225) [] []]).take 2=[.b (Eh k),.fn (.func (vt k)) [] []]:=by
 have:k=1∨k=2∨k=3∨k=4∨k=5:=by omega
 rcases this with rfl|rfl|rfl|rfl|rfl<;>rfl
theorem ajj(k:Int):∀(args:Array Value)(w:World),(callFunc (vt k) args).run Tryz.prog w=.ok (.enter (vt k) args) w:=by
 unfold vt;split
 ·exact call224
 ·split
  ·exact call225
  ·exact call223
theorem aji(k:Int)(i:cK)(hs:rX i):Fc Tryz.prog (vt k) [.agg (mh i)] (.i (C3 k i)):=by
 unfold vt C3;split
 ·exact Xk i hs
 ·split
  ·exact abB i hs
  ·exact ahG i hs
structure adM(i:cK)where
 pre:List cF
 rest:List cF
 hx:[i.oe,i.oa,i.oN]=pre++rest
 hp:pY (C3 i.kind i) [i.oe,i.oa,i.oN]=pY (C3 i.kind i) rest
theorem adL(i:cK)(hs:rX i):Fc Tryz.prog 130 [.agg (mh i)] (.i (ov i)):=by
 refine bE func130 ntmps130 results130 ?_;refine go [11]<|oP (aj call97 rfl (Cw _))<|br (fun h1=>?_) (fun h1=>?_)
 ·exact an rfl (Sub.int (by unfold ov;exact kh h1))
 ·skip
  skip;refine br (fun h2=>?_) (fun h2=>?_)
  ·exact an rfl (Sub.int (by unfold ov;exact dI h1 (kh h2)))
  ·have dO:=h2;try simp only[bs]at dO
   refine oP (aj call181 rfl (Rj _))<|br (fun h3=>?_) (fun h3=>?_)
   ·exact an rfl (Sub.int (by unfold ov;exact dI h1 (dI h2 (kh h3))))
   ·refine br (fun h4=>?_) (fun h4=>?_)
    ·exact an rfl (Sub.int (by unfold ov;exact dI h1 (dI h2 (dI h3 (kh h4)))))
    ·refine oP (aj call182 rfl (VS _))<|br (fun h5=>?_) (fun h5=>?_)
     ·exact an rfl (Sub.int (by unfold ov;exact dI h1 (dI h2 (dI h3 (dI h4 (kh h5))))))
     ·refine U.bC (Le.h_ 1 0 rfl rfl rfl rfl) ?_;refine go []<|oP (aj call183 rfl ajk)<|oP (Ue (r:=[.b (Eh i.kind),.fn (.func (vt i.kind)) [] []]) underlying276 isAgg275 sizeOf275 rfl rfl zO zO zQ (ajl zO zO))<|ord<|gP (fun hg=>aj call182 rfl (VS _))<|br (fun h6=>?_) (fun h6=>?_)
      ·exact an rfl (Sub.int (by unfold ov;exact dI h1 (dI h2 (dI h3 (dI h4 (dI h5 (kh h6)))))))
      ·refine oP (cm (n:=3) (rows:=[iL i.oe,iL i.oa,iL i.oN]) underlying278 sizeOf75 rfl rfl rfl zeroValue75 rfl rfl rfl rfl rfl rfl rfl)<|U.loop (ι:=adM i) (fun sx=>[(1,.bz (mh i)),(3,.box 1 0),(75,.snap 2 true ([i.oe,i.oa,i.oN].map iL)),(76,.i 3),(77,.i sx.pre.length)]) (fun sx=>[(1,.cells [.b (Eh i.kind),.fn (.func (vt i.kind)) [] []])]) (fun sx=>sx.rest.length) ⟨[],_,rfl,rfl⟩ ?_ ?_
       ·exact Le.mk rfl (.n 5 rfl rfl .nil) (.cons rfl rfl .nil)
       ·rintro⟨pre,rest,hx,hp⟩;dsimp only;have hl:=congrArg List.length hx;simp only[List.length_append,List.length_cons,List.length_nil]at hl;rcases rest with _|⟨x,rest⟩
        ·skip;exact go [11]<|aQ (by simp at hl⊢;omega)<|go [11]<|oP (cR (ajj i.kind) rfl rfl (aji i.kind i hs))<|an rfl (Sub.int (by unfold ov;exact dI h1 (dI h2 (dI h3 (dI h4 (dI h5 (dI h6 hp.symm)))))))
        ·simp only[List.length_cons]at hl;have nC:=Sy hx;refine go [11]<|bM zQ<|ix zO (bb iL hx rfl)<|oP (aj call184 rfl (agC x (by rcases nC with rfl|rfl|rfl;exact hs.1;exact hs.2.1;exact hs.2.2)))<|br (fun h7=>?_) (fun h7=>?_)
         ·exact an rfl (Sub.int (by unfold ov;exact dI h1 (dI h2 (dI h3 (dI h4 (dI h5 (dI h6 (agH hp h7))))))))
         ·exact sd (aB zO)<|nx ⟨pre++[x],rest,by simp[hx],agG hp h7⟩ zS (Le.mk rfl (.n 4 rfl rfl (.cons rfl (Sub.int zS) rfl .nil)) (.cons rfl rfl .nil))
structure RD(i:cK)(t:List dB)where
 pre:List ae
 rest:List ae
 hx:qj i=pre++rest
 hp:pre.any (fun c=>!(nn c t).2)=false
theorem aeI(i:cK)(t:List dB):Fc Tryz.prog 132 [.agg (mh i),p_ t] (.i (J0 i t)):=by
 refine bE func132 ntmps132 results132 ?_;have eU:(qj i).length≤2:=by unfold qj;split<;>simp
 refine go []<|oP (cm (n:=1) (rows:=[[D.str i.cur]]) underlying73 sizeOf9 rfl rfl rfl zeroValue9 rfl rfl rfl rfl rfl rfl rfl)<|br (fun h1=>?_) (fun h1=>?_)
 ·refine oP (cm (n:=1) (rows:=[[D.str i.other]]) underlying73 sizeOf9 rfl rfl rfl zeroValue9 rfl rfl rfl rfl rfl rfl rfl)<|oP (aia underlying73 underlying73 sizeOf9 typeInfo9 zeroValue9 rfl (bt:=16) rfl rfl rfl rfl zS zS)<|U.loop (ι:=RD i t) (fun sx=>[(1,p_ t),(21,.snap 1 false ((qj i).map fun s=>[D.str s])),(22,.i (qj i).length),(23,.i sx.pre.length)]) (fun sx=>[]) (fun sx=>sx.rest.length) ⟨[],_,rfl,rfl⟩ ?_ ?_
  ·exact Le.mk rfl (.s rfl rfl (.cons rfl (Sub.snap (by(unfold qj;(rw[if_pos (by simpa using h1)];rfl)))) rfl (.cons rfl (Sub.int (by(unfold qj;(rw[if_pos (by simpa using h1)];rfl)))) rfl (.s rfl rfl .nil)))) .nil
  ·rintro⟨pre,rest,hx,hp⟩;dsimp only;rcases lc hx with⟨rfl,hl⟩|⟨x,rest,rfl,hl⟩
   ·skip;exact go []<|aQ (by simp at hl⊢;omega)<|go []<|an rfl (Sub.int (by exact dI (MW hx hp) rfl))
   ·refine go []<|bM zQ<|ix zO (bb (fun s=>[D.str s]) hx rfl)<|oP (aj call180 rfl (Ii t x))<|br (fun h2=>?_) (fun h2=>?_)
    ·exact an rfl (Sub.int (by exact kh (MX hx zA)))
    ·exact sd (aB zO)<|nx ⟨pre++[x],rest,by simp[hx],r8 hp zA⟩ zS (Le.mk rfl (.s rfl rfl (.cons rfl (Sub.refl _) rfl (.s rfl rfl (.cons rfl (Sub.int zS) rfl .nil)))) .nil)
 ·refine U.loop (ι:=RD i t) (fun sx=>[(1,p_ t),(21,.snap 1 false ((qj i).map fun s=>[D.str s])),(22,.i (qj i).length),(23,.i sx.pre.length)]) (fun sx=>[]) (fun sx=>sx.rest.length) ⟨[],_,rfl,rfl⟩ ?_ ?_
  ·exact Le.mk rfl (.s rfl rfl (.cons rfl (Sub.snap (by(unfold qj;(rw[if_neg (by simpa using h1)];rfl)))) rfl (.cons rfl (Sub.int (by(unfold qj;(rw[if_neg (by simpa using h1)];rfl)))) rfl (.s rfl rfl .nil)))) .nil
  ·rintro⟨pre,rest,hx,hp⟩;dsimp only;rcases lc hx with⟨rfl,hl⟩|⟨x,rest,rfl,hl⟩
   ·skip;exact go []<|aQ (by simp at hl⊢;omega)<|go []<|an rfl (Sub.int (by exact dI (MW hx hp) rfl))
   ·refine go []<|bM zQ<|ix zO (bb (fun s=>[D.str s]) hx rfl)<|oP (aj call180 rfl (Ii t x))<|br (fun h3=>?_) (fun h3=>?_)
    ·exact an rfl (Sub.int (by exact kh (MX hx zA)))
    ·exact sd (aB zO)<|nx ⟨pre++[x],rest,by simp[hx],r8 hp zA⟩ zS (Le.mk rfl (.s rfl rfl (.cons rfl (Sub.refl _) rfl (.s rfl rfl (.cons rfl (Sub.int zS) rfl .nil)))) .nil)
structure XZ(l:List cK)(t:List dB)where
 pre:List cK
 rest:List cK
 hx:l=pre++rest
 hp:ri l t=uk t pre rest
theorem XY(l:List cK)(t:List dB)(hs:∀x∈l,rX x):Fc Tryz.prog 95 [uP l,p_ t] (.i (ri l t)):=by
 refine bE func95 ntmps95 results95 ?_;refine U.ec 0 rfl (fun hb=>?_);simp only[List.length_map,aH]at hb;refine go [11]<|oP (aj call129 rfl (X4 _))<|br (fun h1=>?_) (fun h1=>?_)
 ·exact an rfl (Sub.int (by exact kh h1))
 ·refine br (fun h2=>?_) (fun h2=>?_)
  ·exact an rfl (Sub.int (by exact dI h1 (kh (by simpa using h2))))
  ·refine U.loop (ι:=XZ l t) (fun sx=>[(1,p_ t),(0,uP l),(17,uP l),(18,.i l.length),(19,.i sx.pre.length)]) (fun sx=>[]) (fun sx=>sx.rest.length) ⟨[],l,rfl,adR h1 (by simpa using h2)⟩ ?_ ?_
   ·exact Le.mk rfl (.n 3 rfl rfl (.cons rfl (Sub.int zS) rfl (.s rfl rfl .nil))) .nil
   ·rintro⟨pre,rest,hx,hp⟩;dsimp only;rcases lc hx with⟨rfl,hl⟩|⟨x,rest,rfl,hl⟩
    ·skip;exact go [11]<|aQ (by simp at hl⊢;omega)<|go [11]<|an rfl (Sub.int (by exact hp.symm))
    ·refine go [11]<|bM zQ<|ix zO (bb mh hx rfl)<|oP (aj call130 rfl (adL x (hs x (by rw[hx];simp))))<|br (fun h3=>?_) (fun h3=>?_)
     ·exact an rfl (Sub.int (by exact JX hp (adJ h3) h3))
     ·refine U.bC (Le.h_ 6 0 rfl rfl rfl rfl) ?_;refine go []<|oP (kp underlying65 sizeOf77 rfl (l:=0) (h:=pre.length) (r:=pre.map mh) (.inl ⟨rfl,rfl⟩) (.inr ⟨_,_,rfl,rfl⟩) zO (by simp[hx]) (by rw[hx];simp))<|oP (aj call131 rfl (abq pre x.id))<|ord<|br (fun h4=>?_) (fun h4=>?_)
      ·exact an rfl (Sub.int (by exact JX hp (adK h3 h4) rfl))
      ·refine oP (aj call132 rfl (aeI x t))<|br (fun h5=>?_) (fun h5=>?_)
       ·exact an rfl (Sub.int (by exact JX hp (Ra h3 h4) h5))
       ·exact go [11]<|sd (aB zO)<|nx ⟨pre++[x],rest,by simp[hx],adS hp (Ra h3 h4) h5⟩ zS (Le.mk rfl (.n 4 rfl rfl (.cons rfl (Sub.int zS) rfl .nil)) .nil)
theorem ai8(s:Setup)(hs:∀x∈s.insts,rX x):Fc Tryz.prog 67 [.agg (xb s)] (.b (decide (ri s.insts s.wV=0))):=by
 refine bE func67 ntmps67 results67 ?_;exact go []<|oP (aj call95 rfl (XY s.insts s.wV hs))<|an rfl (Sub.refl _)
end Go.T
namespace Go.T
open Go Go.Proofs Go.Shelf Go.RowKit
@[reducible] def yM:ae:=[65,66,67,68,69,70,71,72,73,74,75,76,77,78,79,80,81,82,83,84,85,86,87,88,89,90]
theorem Xy(c:UInt8):yM.contains c=(decide (65≤c.toNat)&&decide (c.toNat≤90)):=by
 have h:∀n:Fin 256,yM.contains (UInt8.ofNat n.1)=(decide (65≤(UInt8.ofNat n.1).toNat)&&decide ((UInt8.ofNat n.1).toNat≤90)):=by decide+kernel
 have:=h ⟨c.toNat,c.toNat_lt⟩;simpa using this
def wC(s:ae):ae:=Lib.trimS s yM
theorem amO(s:ae):decide (wC s=[])=s.all (fun c=>decide (65≤c.toNat)&&decide (c.toNat≤90)):=by
 have hp:(yM.contains ·)=fun c=>decide (65≤c.toNat)&&decide (c.toNat≤90):=funext Xy;have key:wC s=[]↔s.all (fun c=>decide (65≤c.toNat)&&decide (c.toNat≤90))=true:=by
  unfold wC Lib.trimS Lib.trimLeftS Lib.trimRightS;rw[hp,Ed,List.all_reverse];constructor
  ·intro h;have:=Ol _ s.reverse h;rwa[List.all_reverse]at this
  ·intro h;rw[(Ed _ s.reverse).2 (by rwa[List.all_reverse])];rfl
 by_cases h:wC s=[]
 ·rw[key.1 h];simp[h]
 ·have:s.all (fun c=>decide (65≤c.toNat)&&decide (c.toNat≤90))=false:=by
   cases e:s.all (fun c=>decide (65≤c.toNat)&&decide (c.toNat≤90))with
   |false=>rfl
   |true=>exact absurd (key.2 e) h
  rw[this];simp[h]
theorem amN(s:ae):(wC s).length≤s.length:=by
 unfold wC Lib.trimS Lib.trimLeftS Lib.trimRightS;refine Nat.le_trans (Ec _ _) ?_;rw[List.length_reverse];refine Nat.le_trans (Ec _ _) zS
theorem amP(s:ae):Fc Tryz.prog 192 [.str s,.str yM] (.str (wC s)):=.qP fun w O ρ vals _ hv=>by
 obtain⟨rfl,hb,_⟩:=hv.Dh;refine(Any.strings_Trim_laid Tryz.RL (by kernel_rfl) ⟨s.toArray⟩ ⟨yM.toArray⟩ w (by simp[ByteArray.size];unfold aH at hb;omega) zD (ascii_of_all zD)).mono ?_;rintro e w' ⟨rfl,hw⟩;refine⟨_,rfl,?_,gL.below hw⟩;have:=amN s;simp only[V];exact⟨rfl,by omega⟩
end Go.T
namespace Go.T
open Go
def IX(s p:ae):Bool:=decide ((p.length:Int)≤s.length)&&decide (s.take p.length=p)
def yy(s p:ae):ae:=if IX s p=true then s.drop p.length else s
theorem ad2(s:ae):(decide ((s.length:Int)=3)&&decide (wC s=[]))=ig s:=by
 rw[amO];unfold ig;by_cases h:s.length=3
 ·simp[h]
 ·have:¬((s.length:Int)=3):=by omega
  simp[h,this]
def nh{α:Type}[DecidableEq α](a b:List α):Bool:=decide (a=b)
theorem Ej{α:Type}{a b:List α}[DecidableEq α](h:a.length≠b.length):false=nh a b:=by
 unfold nh;rw[decide_eq_false];intro e;exact h (congrArg List.length e)
theorem Ek{α:Type}{a b p q:List α}{x y:α}{r t:List α}[DecidableEq α](h:a=p++x::r)(h2:b=q++y::t)(hl:q.length=p.length)(hn:x≠y):false=nh a b:=by
 unfold nh;rw[decide_eq_false];rintro e;rw[h,h2]at e;have:=List.append_inj e hl.symm;exact hn (List.cons.inj this.2).1
theorem Ei{α:Type}{a b p q:List α}[DecidableEq α](h:a=p++[])(h2:b=q++[])(hp:p=q):true=nh a b:=by
 subst h;subst h2;subst hp;simp[nh]
open Go.Proofs Go.Proofs.Tryz
set_option maxRecDepth 20000
theorem acw(s p:ae):Fc Tryz.prog 276 [.str s,.str p] (.b (IX s p)):=by
 refine bE func276 ntmps276 results276 ?_;refine U.qh 0 rfl (fun hb=>?_);simp only[aH]at hb;exact go []<|gP (fun hg=>wj underlying9 rfl (l:=0) (h:=p.length) (r:=s.take p.length) (.inl ⟨rfl,rfl⟩) (.inr ⟨_,_,rfl,rfl⟩) zO (by simp[yB]at hg;omega) zS)<|an rfl (Sub.refl _)
theorem amT(s p:ae):Fc Tryz.prog 289 [.str s,.str p] (.str (yy s p)):=by
 refine bE func289 ntmps289 results289 ?_;refine go []<|oP (aj call276 rfl (acw _ _))<|br (fun h1=>?_) (fun h1=>?_)
 ·exact oP (wj underlying9 rfl (l:=p.length) (h:=s.length) (r:=s.drop p.length) (.inr ⟨_,_,rfl,rfl⟩) (.inl ⟨rfl,rfl⟩) (by simp[IX]at h1;omega) zO (by rw[List.take_of_length_le];simp))<|an rfl (Sub.str (by unfold yy;rw[if_pos h1]))
 ·exact an rfl (Sub.str (by unfold yy;rw[if_neg (by rw[h1];simp)]))
theorem amU(s p:ae):Fc Tryz.prog 230 [.str s,.str p] (.str (yy s p)):=by
 refine bE func230 ntmps230 results230 ?_;exact go []<|oP (aj call289 rfl (amT _ _))<|an rfl (Sub.refl _)
theorem OO(a:ae):Fc Tryz.prog 190 [.str a] (.i (yy a [45]).length):=by
 refine bE func190 ntmps190 results190 ?_;exact go []<|oP (aj call230 rfl (amU _ _))<|an rfl (Sub.refl _)
theorem GM(a:ae):Fc Tryz.prog 196 [.str a] (.agg (iL ⟨a,[]⟩)):=by
 refine Fc.j2 func196 rfl ntmps196 rfl rfl rfl ?_;refine go [99999]<|U.ret (?_);exact Rd.cA results196 isAgg75 sizeOf75 rfl rfl rfl (Sub.agg (.r (.r .nil)))
theorem agj(s:ae):Fc Tryz.prog 139 [.str s] (.i (if(!isName s)=true then 23 else 0)):=by
 refine bE func139 ntmps139 results139 ?_;refine go []<|oP (aj call97 rfl (Cw _))<|br (fun h1=>?_) (fun h1=>?_)
 ·exact an rfl (Sub.int (by exact kh h1))
 ·exact an rfl (Sub.int (by exact dI h1 rfl))
theorem Fa(s:ae):Fc Tryz.prog 140 [.str s] (.b (ig s)):=by
 refine bE func140 ntmps140 results140 ?_;exact go []<|gP (fun hg=>aj call192 rfl (amP _))<|an rfl (Sub.bool (by exact ad2 s))
theorem ajw(x p:gi):Fc Tryz.prog 195 [.agg (rm x),.bz (rm p)] (.b (decide (x.iO=p.iO))):=by
 refine bE func195 ntmps195 results195 ?_;exact go []<|an rfl (Sub.refl _)
structure adv(l:List gi)(P:gi→Bool)where
 pre:List gi
 rest:List gi
 hx:l=pre++rest
 hp:pre.any P=false
theorem adu(l:List gi)(f:FuncId)(bx:List D)(ct:D.bk.dw bx=true)(P:gi→Bool)(fy:∀(args:Array Value)(w:World),(callFunc f args).run Tryz.prog w=.ok (.enter f args) w)(hP:∀x∈l,Fc Tryz.prog f (.agg (rm x)::bx) (.b (P x))):Fc Tryz.prog 241 [tt l,.fn (.func f) [] bx] (.i (rn P l)):=by
 refine Fc.mk' [4] func241 rfl ntmps241 rfl (by simp[D.bk,D.bk.dw,ct]) rfl (fun t w=>results_tmp results241 t _ w) ?_;refine U.ec 0 rfl (fun hb=>?_);simp only[List.length_map,aH]at hb;refine go []<|U.loop (ι:=adv l P) (fun sx=>[(0,tt l),(1,.fn (.func f) [] bx),(6,tt l),(7,.i l.length),(8,.i sx.pre.length)]) (fun sx=>[]) (fun sx=>sx.rest.length) ⟨[],l,rfl,rfl⟩ ?_ ?_
 ·exact Le.mk rfl (.s rfl rfl (.cons rfl (Sub.refl _) (pr ct) (.s rfl rfl (.cons rfl (Sub.int zS) rfl (.s rfl rfl .nil))))) .nil
 ·rintro⟨pre,rest,hx,hp⟩;dsimp only;rcases lc hx with⟨rfl,hl⟩|⟨x,rest,rfl,hl⟩
  ·skip;exact go []<|aQ (by simp at hl⊢;omega)<|go []<|an rfl (Sub.int (by exact vo hx hp))
  ·refine go []<|bM zQ<|ix zO (bb rm hx rfl)<|oP (cR fy rfl rfl (hP x (by rw[hx];simp)))<|br (fun h1=>?_) (fun h1=>?_)
   ·exact an rfl (Sub.int (by exact vp hx hp h1))
   ·exact sd (aB zO)<|nx ⟨pre++[x],rest,by simp[hx],r8 hp h1⟩ zS (Le.mk rfl (.s rfl rfl (.cons rfl (Sub.refl _) (pr ct) (.n 2 rfl rfl (.cons rfl (Sub.int zS) rfl .nil)))) .nil)
theorem YK(l:List gi)(f:FuncId)(bx:List D)(ct:D.bk.dw bx=true)(P:gi→Bool)(fy:∀(args:Array Value)(w:World),(callFunc f args).run Tryz.prog w=.ok (.enter f args) w)(hP:∀x∈l,Fc Tryz.prog f (.agg (rm x)::bx) (.b (P x))):Fc Tryz.prog 194 [tt l,.fn (.func f) [] bx] (.b (l.any P)):=by
 refine Fc.mk' [4] func194 rfl ntmps194 rfl (by simp[D.bk,D.bk.dw,ct]) rfl (fun t w=>results_tmp results194 t _ w) ?_;exact go []<|oP (aj call241 rfl (adu l f bx ct P fy hP))<|an rfl (Sub.bool (by exact vm P l))
end Go.T
namespace Go.T
open Go
variable[bT]
theorem MA{w:World}{O:Nat→Prop}{ρ:aC}:∀{ds:List D}{vs:List Value}{i:Nat}{d:D},Vs w O ρ ds vs→ds[i]?=some d→∃v,vs[i]?=some v∧V w O ρ d v
 |[],vs,i,d,_,h=>by simp at h
 |e::ds,vs,0,d,h,hd=>by
  simp only[Vs]at h;obtain⟨u,us,rfl,h1,_⟩:=h;simp at hd;subst hd;exact⟨u,by simp,h1⟩
 |e::ds,vs,i+1,d,h,hd=>by
  simp only[Vs]at h;obtain⟨u,us,rfl,_,h2⟩:=h;obtain⟨v,h3,h4⟩:=MA h2 (by simpa using hd);exact⟨v,by simpa using h3,h4⟩
theorem aio{P:Program}{env:Env}{dst:Option Tmp}{ty:TypeId}{pos:String}{au:Array Edge}{g:Option (Nat×Bool)}{t e:TypeId}{x y:Operand}{n:Nat}{k:IntKind}{i:Int}{cs:List D}{r:D}(hu:P.underlying t=some (.array n e))(ha:∀w,(isAgg e).run P w=.ok false w)(hs:∀w,(sizeOf e).run P w=.ok 1 w)
  (hx:env.op x=some (.agg cs))(hy:env.op y=some (.raw (.int k i)))(h0:0≤i)(hi:i<n)(hr:cs[i.toNat]?=some r)(J:aa):
  aq P ⟨dst,.index t x y,ty,pos,au,g⟩ env J r J:=
 .val fun O ρ a w _ hv=>by
  have h1:=hv x (by simp[Op.operands]) _ hx;have h2:=hv y (by simp[Op.operands]) _ hy;simp only[V]at h1 h2;obtain⟨vs,e1,h3⟩:=h1;obtain⟨v,h4,h5⟩:=MA h3 hr;have h6:vs[i.toNat]?=some v:=by simpa using h4
  refine⟨v,?_,h5⟩;simp[execOp,Instr.index,h2,asIntOf,cg hu,e1,h0,hi,hs,part,ha,h6]
end Go.T
namespace Go.T
open Go
theorem iT{α:Type}{b:Bool}{x y:α}(h:b=true):x=if b=true then x else y:=by rw[if_pos h]
theorem iF{α:Type}{b:Bool}{x y z:α}(h:b=false)(k:z=y):z=if b=true then x else y:=by rw[if_neg (by rw[h];simp)];exact k
def mF(pos part:Bool)(f:cF):Int:=Ca pos part f (afn pos part f) (decide (40<((yy f.num [45]).length:Int))||decide (40<((yy f.den [45]).length:Int)))
def r3(f:Fact)(n:Int):cF:=
 if n=4 then⟨f.eX,[]⟩else if n=5 then⟨f.cV,[]⟩else if n=6 then⟨f.tS,[]⟩else if n=7 then f.iQ else if n=8 then f.ratio else if n=9 then f.share else yE
@[reducible] def aad(f:Fact):List D:=[.str [],.str [],.str [],.str [],.str [],.str [],.str [],.str [],.str f.eX,.str [],.str f.cV,.str [],.str f.tS,.str [],.str f.iQ.num,.str f.iQ.den,.str f.ratio.num,.str f.ratio.den,.str f.share.num,.str f.share.den,.str [],.str [],.str [],.str [],.str [],.str []]
theorem am'{f:Fact}{n:Int}(h0:0≤n)(h1:n<13):((aad f).drop (n.toNat*2)).take 2=iL (r3 f n):=by
 have:n=0∨n=1∨n=2∨n=3∨n=4∨n=5∨n=6∨n=7∨n=8∨n=9∨n=10∨n=11∨n=12:=by omega
 rcases this with rfl|rfl|rfl|rfl|rfl|rfl|rfl|rfl|rfl|rfl|rfl|rfl|rfl<;>rfl
theorem abC(f g:cF):decide ([f.num,f.den]=[g.num,g.den])=decide (f=g):=by
 rw[decide_eq_decide];cases f;cases g;simp
def qn(f:Fact)(n:Int):Bool:=
 if decide (n=0)=true then decide (f.ie=[])else if decide (n=1)=true then decide (f.other=[])else if decide (n=2)=true then decide (f.cur=[])else if decide (n=3)=true then decide (f.target=[])
 else if decide (n=10)=true then decide ((f.ll.length:Int)=0)else if decide (n=11)=true then decide ((f.opts.length:Int)=0)else if decide (n=12)=true then decide (f.choice=0)else decide (r3 f n=yE)
theorem ahv{x y:gi}(h:(!decide ([x.iO,x.eX]=[y.iO,y.eX]))=false):x=y:=by
 cases x;cases y;simpa using h
theorem ahw{x y:gi}(h:(!decide ([x.iO,x.eX]=[y.iO,y.eX]))=true):¬x=y:=by
 rintro rfl;simp at h
@[reducible] def x8(x:ir):List ae:=[x.other,x.ratio.num,x.ratio.den,x.iQ.num,x.iQ.den,x.value.num,x.value.den]
theorem ag7{x y:ir}(h:(!decide (x8 x=x8 y))=false):x=y:=by
 rcases x with⟨a,⟨b,c⟩,⟨d,e⟩,⟨f,g⟩⟩;rcases y with⟨a',⟨b',c'⟩,⟨d',e'⟩,⟨f',g'⟩⟩;simp[x8]at h;obtain⟨rfl,rfl,rfl,rfl,rfl,rfl,rfl⟩:=h;rfl
theorem ag8{x y:ir}(h:(!decide (x8 x=x8 y))=true):¬x=y:=by
 rintro rfl;simp at h
theorem D1{α:Type}{l:List α}{n:Nat}(h:l.length=n+1):∃y r,l=y::r:=by
 cases l with
 |nil=>simp at h
 |cons y r=>exact⟨y,r,rfl⟩
def UN(a b:Fact):Bool:=decide (a.key=b.key)&&decide (a.yw=b.yw)&&(a.cancelled==b.cancelled)&&decide (a.day=b.day)&&decide (a.kind=b.kind)&&decide (a.ie=b.ie)&&decide (a.other=b.other)&&decide (a.cur=b.cur)&&decide (a.target=b.target)
 &&decide (a.eX=b.eX)&&decide (a.cV=b.cV)&&decide (a.tS=b.tS)&&decide ([a.iQ.num,a.iQ.den]=[b.iQ.num,b.iQ.den])&&decide ([a.ratio.num,a.ratio.den]=[b.ratio.num,b.ratio.den])&&decide ([a.share.num,a.share.den]=[b.share.num,b.share.den])
 &&nh a.ll b.ll&&nh a.opts b.opts&&decide (a.choice=b.choice)
open Go.Proofs Go.Proofs.Tryz
set_option maxRecDepth 20000
theorem agZ(a b c d:ae)(ha:a.length≤1000)(hb:b.length≤1000)(hc:c.length≤1000)(hd:d.length≤1000):Fc Tryz.prog 315 [.str a,.str b,.str c,.str d,.bz [.fn (.func 313) [] []]] (.bl [.str (ofInt (val a*val d-val c*val b)),.str (ofInt (val b*val d))]):=by
 refine pO func315 ntmps315 results315 ?_;have h1:=Fz a d;have h2:=Fz c b;have h3:=Fz b d;exact go []<|oP (cR call313 rfl rfl (Kw _ _ zO zO))<|oP (cR call313 rfl rfl (Kw _ _ zO zO))<|oP (aj call316 rfl (akz _ _ zO zO))<|oP (cR call313 rfl rfl (Kw _ _ zO zO))<|ord<|p9 rfl rfl (Sub.str (by rw[q8,q8])) (Sub.refl _)
theorem ag1:Fc Tryz.prog 287 [] (.agg [.fn (.func 314) [] [.bz [.fn (.func 313) [] []]],.fn (.func 315) [] [.bz [.fn (.func 313) [] []]],.fn (.func 317) [] [.bz [.fn (.func 313) [] []]],.fn (.func 318) [] [.bz [.fn (.func 313) [] []]]]):=by
 refine Fc.j2 func287 rfl ntmps287 rfl rfl rfl ?_;refine go [2,99999] ?_;refine U.bC (Le.h_ 1 1 rfl rfl rfl rfl) ?_;refine go [99999]<|U.ret (?_);exact Rd.cA results287 isAgg356 sizeOf356 rfl rfl rfl (Sub.agg (.r (.cons (Sub.refl _) (.r (.r .nil)))))
theorem WN(f g:cF)(hf:f.num.length≤900∧f.den.length≤900)(hg:g.num.length≤900∧g.den.length≤900):Fc Tryz.prog 286 [.fn (.func 315) [] [.bz [.fn (.func 313) [] []]],.agg (iL f),.agg (iL g)] (.agg (iL (AO f g))):=by
 refine Fc.j2 func286 rfl ntmps286 rfl rfl rfl ?_;obtain⟨hl1,bW,vC,xB⟩:=L1 hf hg zD;have hm1:=A2 (Cv (eW f).1 (eW g).2) (k:=1800) zO;have hm2:=A2 (Cv (eW g).1 (eW f).2) (k:=1800) zO;have hs:=agO hm1 hm2;have Jq:=Fz (eW f).2 (eW g).2;refine go [99999]<|oP (aj call227 rfl (FX f zO))<|oP (aj call227 rfl (FX g zO))<|oP (cR call315 rfl rfl (agZ _ _ _ _ zO zO zO zO))<|oP (aj call229 rfl (Ke _ _ zO zO ahU))<|U.ret (?_);exact Rd.cA results286 isAgg75 sizeOf75 rfl rfl rfl (Sub.agg (.cons (Sub.str (by rw[q8,q8];rfl)) (.cons (Sub.str (by rw[q8,q8];rfl)) .nil)))
theorem abD(f g:cF)(hf:f.num.length≤900∧f.den.length≤900)(hg:g.num.length≤900∧g.den.length≤900):Fc Tryz.prog 228 [.agg (iL f),.agg (iL g)] (.agg (iL (AO f g))):=by
 refine Fc.j2 func228 rfl ntmps228 rfl rfl rfl ?_;refine go [99999]<|oP (aj call287 rfl ag1)<|oP (aio (r:=.fn (.func 315) [] [.bz [.fn (.func 313) [] []]]) underlying356 isAgg355 sizeOf355 rfl rfl zD zD rfl)<|oP (aj call286 rfl (WN _ _ zA zA))<|ord<|U.ret (?_);exact Rd.cA results228 isAgg75 sizeOf75 rfl rfl rfl (Sub.agg (.r (.r .nil)))
theorem ON(f g:cF)(hf:f.num.length≤900∧f.den.length≤900)(hg:g.num.length≤900∧g.den.length≤900):Fc Tryz.prog 188 [.agg (iL f),.agg (iL g)] (.i (DW f g)):=by
 refine bE func188 ntmps188 results188 ?_;have hl:=akx (k:=900) zD hf hg;have hp:=K0 (AO f g);exact go []<|oP (aj call228 rfl (abD _ _ zA zA))<|oP (aj call227 rfl (FX _ zO))<|oP (aj call119 rfl (yQ _ [] (by rw[hp];omega) zS))<|an rfl (Sub.int (by rw[hp];rfl))
theorem KM(f:cF)(pos part:Bool)(hs:mO f):Fc Tryz.prog 187 [.agg (iL f),.bz [.b pos],.bz [.b part]] (.i (mF pos part f)):=by
 refine bE func187 ntmps187 results187 ?_;have hf:f.num.length≤900∧f.den.length≤900:=⟨Nat.le_trans hs.1 zD,Nat.le_trans hs.2 zD⟩;refine go []<|oP (aj call188 rfl (ON f yE hf zD))<|oP (aj call189 rfl (Ph _ zA))<|br (fun h1=>?_) (fun h1=>?_)
 ·exact an rfl (Sub.int (by unfold mF Ca;exact kh h1))
 ·refine oP (aj call190 rfl (OO _))<|gP (fun hg=>aj call190 rfl (OO _))<|br (fun h2=>?_) (fun h2=>?_)
  ·exact an rfl (Sub.int (by unfold mF Ca;exact dI h1 (kh h2)))
  ·refine gP (fun hg=>aj call191 rfl (abw [49] zD))<|gP (fun hg=>aj call188 rfl (ON f (j1 (val [49]) (val [49])) hf (Sg (k:=2) zD zD zD|>.imp (Nat.le_trans · zD) (Nat.le_trans · zD))))<|ord<|br (fun h3=>?_) (fun h3=>?_)
   ·exact an rfl (Sub.int (by unfold mF Ca;exact dI h1 (dI h2 (kh h3))))
   ·exact an rfl (Sub.int (by unfold mF Ca;exact dI h1 (dI h2 (dI h3 rfl))))
theorem A8(a b:Bool):Fc Tryz.prog 135 [.b a,.b b] (.fn (.func 187) [] [.bz [.b a],.bz [.b b]]):=by
 refine bE func135 ntmps135 results135 ?_;refine go [1] ?_;refine U.bC (Le.h_ 2 0 rfl rfl rfl rfl) ?_;refine U.bC (Le.h_ 3 1 rfl rfl rfl rfl) ?_;exact go []<|an rfl (by exact Sub.refl _)
end Go.T
namespace Go.T
open Go
variable[bT]
variable{P:Program} {env:Env} {dst:Option Tmp} {ty:TypeId} {pos:String} {au:Array Edge} {g:Option (Nat×Bool)}
inductive va(P:Program):List Field→Nat→Nat→Prop
 |nil (k:Nat):va P [] k k
 |str {f:Field} {fs:List Field} {k n:Nat} (hn:(f.name== "_")=false) (hu:P.underlying f.type=some .string) (ha:∀w,(isAgg f.type).run P w=.ok false w) (ho:f.offset=k) (r:va P fs (k+1) n):va P (f::fs) k n
 |sub {f:Field} {fs gs:List Field} {k n m:Nat} (hn:(f.name== "_")=false) (hu:P.underlying f.type=some (.struct gs.toArray)) (hp:P.stoodInHeld f.type=false) (ha:∀w,(isAgg f.type).run P w=.ok true w) (hs:∀w,(sizeOf f.type).run P w=.ok m w) (hm:gs.length=m) (hg:u_ P gs 0) (ho:f.offset=k) (r:va P fs (k+m) n):va P (f::fs) k n
theorem aao{d:Nat}{xs ys:List ae}{fs:List Field}{k n:Nat}(h:va P fs k n)(hx:n=xs.length)(hy:n=ys.length)(w:World):
  k≤n∧(Op.eqFields (d+2) (xs.map fun s=>Value.string ⟨s.toArray⟩).toArray (ys.map fun s=>Value.string ⟨s.toArray⟩).toArray fs).run P w=.ok (decide (xs.drop k=ys.drop k)) w:=by
 induction h with
 |nil k=>
  rw[List.drop_of_length_le zO,List.drop_of_length_le zO];simp[Op.eqFields]
 |@str f fs k n hn hu ha ho r ih=>
  obtain⟨hk,ih⟩:=ih hx hy;have h1:k<xs.length:=by omega
  have h2:k<ys.length:=by omega
  have xp:decide (xs.drop k=ys.drop k)=(decide (xs[k]=ys[k])&&decide (xs.drop (k+1)=ys.drop (k+1))):=by
   rw[List.drop_eq_getElem_cons h1,List.drop_eq_getElem_cons h2];simp only[List.cons.injEq,Bool.decide_and]
  refine⟨by omega,?_⟩;rw[xp];have pf:f.name≠ "_":=by simpa using hn
  simp only[Op.eqFields,pf,ne_eq,not_false_eq_true,if_true,Sem.run_bind,part,ha,Result.andThen_ok,Bool.false_eq_true,if_false,ho];simp only[List.getElem?_toArray,List.getElem?_map,List.getElem?_eq_getElem h1,List.getElem?_eq_getElem h2,Option.map_some,Sem.run_pure,Result.andThen_ok,run_equalIn_string _ _ _ _ _ hu,wB];by_cases e:xs[k]=ys[k]
  ·simp only[e,BEq.rfl,Bool.not_true,Bool.false_eq_true,if_false,decide_true,Bool.true_and];exact ih
  ·have:(xs[k]==ys[k])=false:=by simpa using e
   simp only[this,Bool.not_false,if_true,Sem.run_pure,e,decide_false,Bool.false_and]
 |@sub f fs gs k n m hn hu hp ha hs hm hg ho r ih=>
  obtain⟨hk,ih⟩:=ih hx hy;refine⟨by omega,?_⟩;have pf:f.name≠ "_":=by simpa using hn
  have j_:P.fieldsOf f.type=gs.toArray:=by simp[Program.fieldsOf,hu]
  have he:∀zs:List ae,(zs.map fun s=>Value.string ⟨s.toArray⟩).toArray.extract k (k+m)=(((zs.drop k).take m).map fun s=>Value.string ⟨s.toArray⟩).toArray:=by
   intro zs;simp[List.map_take,List.map_drop]
  have h3:=fun us vs=>run_equalIn_struct (P:=P) w (d+1) f.type us vs (by rw[j_];exact hu) hp;have h6:=Oy (d:=d) hg (xs:=(xs.drop k).take m) (ys:=(ys.drop k).take m) zQ zQ w;rw[List.drop_zero,List.drop_zero]at h6;have xp:decide (xs.drop k=ys.drop k)=(decide ((xs.drop k).take m=(ys.drop k).take m)&&decide (xs.drop (k+m)=ys.drop (k+m))):=by
   rw[←Bool.decide_and,decide_eq_decide];constructor
   ·intro e;rw[e];exact⟨rfl,by rw[←List.drop_drop,←List.drop_drop,e]⟩
   ·rintro⟨e1,e2⟩;rw[←List.take_append_drop m (xs.drop k),←List.take_append_drop m (ys.drop k),e1,List.drop_drop,List.drop_drop,e2]
  rw[xp];rw[j_]at h3;simp only[Op.eqFields,pf,ne_eq,not_false_eq_true,if_true,Sem.run_bind,part,ha,hs,Result.andThen_ok,ho,Sem.run_pure,he];rw[h3,h6];simp only[Result.andThen_ok];by_cases e:(xs.drop k).take m=(ys.drop k).take m
  ·simp only[e,Bool.not_true,Bool.false_eq_true,if_false,decide_true,Bool.true_and];exact ih
  ·simp only[e,decide_false,Bool.not_false,if_true,Sem.run_pure,Bool.false_and]
theorem aie{op:BinOp}{t t':TypeId}{x y:Operand}{xs ys:List ae}{fs:List Field}{n:Nat}(zC:op=.eql∨op=.neq)(hu:P.underlying t=some (.struct fs.toArray))(hp:P.stoodInHeld t=false)(hg:P.eqGuardType P.depth t=false)(hf:va P fs 0 n)(vE:n=xs.length)(vF:n=ys.length)
  (hx:env.op x=some (.agg (xs.map D.str)))(hy:env.op y=some (.agg (ys.map D.str)))(J:aa):aq P ⟨dst,.binOp op t x y t',ty,pos,au,g⟩ env J (.raw (.bool (if op=.eql then decide (xs=ys)else !decide (xs=ys)))) J:=
 .val fun _ _ a w _ hv=>by
  have h1:=hv x (by simp[Op.operands]) _ hx;have h2:=hv y (by simp[Op.operands]) _ hy;simp only[V]at h1 h2;obtain⟨us,e1,h1⟩:=h1;obtain⟨vs,e2,h2⟩:=h2;have h1:=A0 h1;have h2:=A0 h2;have j_:P.fieldsOf t=fs.toArray:=by simp[Program.fieldsOf,hu]
  have h3:=run_equalIn_struct (P:=P) w 9999 t us vs (by rw[j_];exact hu) hp;have h4:us=(xs.map fun s=>Value.string ⟨s.toArray⟩).toArray:=by rw[←h1]
  have h5:vs=(ys.map fun s=>Value.string ⟨s.toArray⟩).toArray:=by rw[←h2]
  have h6:=(aao (d:=9997) hf (xs:=xs) (ys:=ys) vE vF w).2;rw[j_]at h3;simp only[h4,h5]at h3 e1 e2;simp only[List.drop_zero]at h6;refine⟨.bool (if op=.eql then decide (xs=ys)else !decide (xs=ys)),?_,by simp only[V]⟩;rcases zC with rfl|rfl
  ·simp[execOp,e1,e2,run_eqGuard_agg _ _ _ _ _ _ _ hg,run_eql_struct,h3,h6]
  ·simp[execOp,e1,e2,run_eqGuard_agg _ _ _ _ _ _ _ hg,run_neq_struct,h3,h6]
theorem aiy{t t':TypeId}{x y:Operand}{xs ys:List ae}{fs:List Field}{n:Nat}{ds es:List D}(hu:P.underlying t=some (.struct fs.toArray))(hp:P.stoodInHeld t=false)(hg:P.eqGuardType P.depth t=false)(hf:va P fs 0 n)(vE:n=xs.length)(vF:n=ys.length)
  (hx:env.op x=some (.agg ds))(hy:env.op y=some (.agg es))(hd:ds=xs.map D.str)(he:es=ys.map D.str)(J:aa):aq P ⟨dst,.binOp .neq t x y t',ty,pos,au,g⟩ env J (.raw (.bool (!decide (xs=ys)))) J:=by
 subst hd;subst he;exact aie (.inr rfl) hu hp hg hf vE vF hx hy J
def vO:Value→Bool
 |.nilIface=>true
 |_=>false
theorem aik{t t':TypeId}{x:Operand}{v:Value}{ms:Array (String×TypeId)}(hu:P.underlying t=some (.interface ms))(hx:env.op x=some (.raw v))(jC:v=.nilIface∨∃te pe,v=.iface te pe)(J:aa):
  aq P ⟨dst,.binOp .eql t x (.const .nilIface) t',ty,pos,au,g⟩ env J (.raw (.bool (vO v))) J:=
 .val fun _ _ a w _ hv=>by
  have h1:=hv x (by simp[Op.operands]) _ hx;simp only[V]at h1;refine⟨.bool (vO v),?_,by simp only[V]⟩;have e2:a.eval (.const .nilIface)=.nilIface:=rfl;rcases jC with rfl|⟨te,pe,rfl⟩
  ·have h3:(eqGuard .eql t x (.const .nilIface) .nilIface .nilIface).run P w=.ok () w:=by cases x<;>rfl
   have h:∀d:Nat,(Op.equalIn (d+1) t .nilIface .nilIface).run P w=.ok true w:=fun d=>by simp[Op.equalIn,run_underlying hu]
   have h4:(binOp .eql t .nilIface .nilIface).run P w=.ok (.bool true) w:=by
    show((Op.equalIn (9999+1) t .nilIface .nilIface).bind fun b=>Sem.pure (Value.bool b)).run P w=_;rw[Sem.run_bind',h];rfl
   simp only[execOp,h1,e2,vO];rw[Sem.run_bind,Sem.run_bind,h3];simp only[Result.andThen_ok];rw[h4];rfl
  ·have h3:(eqGuard .eql t x (.const .nilIface) (.iface te pe) .nilIface).run P w=.ok () w:=rfl;have h:∀d:Nat,(Op.equalIn (d+1) t (.iface te pe) .nilIface).run P w=.ok false w:=fun d=>by simp[Op.equalIn,run_underlying hu]
   have h4:(binOp .eql t (.iface te pe) .nilIface).run P w=.ok (.bool false) w:=by
    show((Op.equalIn (9999+1) t (.iface te pe) .nilIface).bind fun b=>Sem.pure (Value.bool b)).run P w=_;rw[Sem.run_bind',h];rfl
   simp only[execOp,h1,e2,vO];rw[Sem.run_bind,Sem.run_bind,h3];simp only[Result.andThen_ok];rw[h4];rfl
end Go.T
namespace Go.T
open Go Go.Proofs Go.Shelf Go.RowKit
def Hg(s:ae)(p:Int×Value):Prop:=(Lib.atoiAll s=.ok p.1∧p.2=.nilIface)∨((∀v,Lib.atoiAll s≠.ok v)∧∃te pe,p.2=.iface te pe)
theorem WO{s:ae}{p:Int×Value}(h:Hg s p):p.2=.nilIface∨∃te pe,p.2=.iface te pe:=h.imp (·.2) (·.2)
theorem OC{w:World}{O:Nat→Prop}(h:Gl w O){g:Nat}(hg:g∈H4):∃te pe,w.cell? ⟨g,0,none⟩=some (.iface te pe):=by
 obtain⟨⟨te,pe,T,fr,h1⟩,_⟩:=h.2 g hg;exact⟨te,pe,by simp[World.cell?,h1]⟩
theorem aes(w:World)(t:ByteArray):gL w (Lib.bytesWorld w n_ t):=gL.below (Lib.bytesWorld_below w n_ t)
theorem WQ(s:ae)(hs:s.length≤1000):yG Tryz.prog 239 [.str s] (Hg s) (fun p=>.bl [.i p.1,.raw p.2]):=⟨fun w O ρ vals hO hg hv=>by
 simp only[Vs,V]at hv;obtain⟨_,_,rfl,⟨rfl,_⟩,rfl⟩:=hv;have aY:(⟨s.toArray⟩:ByteArray).size=s.length:=by simp[ByteArray.size]
 have hl:(⟨s.toArray⟩:ByteArray).data.toList=s:=by simp
 cases e:Lib.atoiAll s with
 |ok v=>
  refine Calls.mono (Tryz.strconv_Atoi_ok ⟨s.toArray⟩ zO v (by rw[hl];exact e) w) ?_;rintro e' w' ⟨rfl,hw⟩;refine⟨(v,.nilIface),_,.inl ⟨e,rfl⟩,rfl,by simp[V,Vs,D.i],?_⟩;rcases hw with rfl|⟨t,rfl⟩
  ·exact⟨Nat.le_refl _,fun _ _=>rfl,rfl,rfl,iU.eq rfl rfl⟩
  ·exact aes w t
 |range=>
  obtain⟨te,pe,hc⟩:=OC hg (g:=1) zD;refine Calls.mono (Tryz.strconv_Atoi_range ⟨s.toArray⟩ zO (by rw[hl];exact e) _ w hc (.inr ⟨_,_,rfl⟩)) ?_;rintro e' w' ⟨N,rfl,_,_,hb⟩;exact⟨(Lib.atoiSat s,.iface 337 (.pointer (some ⟨N,0,none⟩))),_,.inr ⟨fun v h=>(by rw[e]at h;cases h),_,_,rfl⟩,rfl,by simp[V,Vs,D.i,hl],gL.below hb⟩
 |_=>
  obtain⟨te,pe,hc⟩:=OC hg (g:=0) zD;refine Calls.mono (Any.strconv_Atoi_syntax Tryz.J3 ⟨s.toArray⟩ zO (by rw[hl];exact e) _ w hc (.inr ⟨_,_,rfl⟩)) ?_;rintro e' w' ⟨N,rfl,_,_,hb⟩;exact⟨(0,.iface 337 (.pointer (some ⟨N,0,none⟩))),_,.inr ⟨fun v h=>(by rw[e]at h;cases h),_,_,rfl⟩,rfl,by simp[V,Vs,D.i];rfl,gL.below hb⟩⟩
theorem ad9(n:Int)(h0:0≤n)(h1:n≤9999):Fc Tryz.prog 240 [.i n] (.str (Lib.itoa n)):=.qP fun w O ρ vals hg hv=>by
 simp only[Vs,V]at hv;obtain⟨_,_,rfl,rfl,rfl⟩:=hv;refine(Tryz.strconv_Itoa n zO zO w (Vu hg)).mono ?_;rintro e w' ⟨rfl,k,os,rfl⟩;refine⟨_,rfl,?_,Ru w k os⟩;simp only[V];have:(Lib.itoa n).length≤20:=by
  unfold Lib.itoa;rw[if_neg zO,Lib.decDigits_length];by_cases h:n.toNat=0
  ·rw[h,Lib.nDigits_small zO];omega
  ·have:=Lib.numDigits_eq n.toNat zO zO;split at this<;>omega
 exact⟨trivial,by unfold aH;omega⟩
theorem YX(s:ae):(kB s 47).2.1.length≤s.length:=by
 unfold kB;split
 ·simp
 ·simp
def vN(s:ae):Bool:=isName (kB s 47).1&&(match Lib.atoiAll (kB s 47).2.1 with|.ok n=>decide (1≤n)&&decide (n≤9999)&&decide (Lib.itoa n=(kB s 47).2.1)|_=>false)
theorem ad5{s:ae}{p:Int×Value}(h:Hg (kB s 47).2.1 p):(isName (kB s 47).1&&vO p.2&&decide (1≤p.1)&&decide (p.1≤9999)&&decide (Lib.itoa p.1=(kB s 47).2.1))=vN s:=by
 obtain⟨n,v⟩:=p;unfold vN;rcases h with⟨h1,h2⟩|⟨h1,te,pe,h2⟩
 ·simp only at h1 h2;rw[h1,h2];simp[vO,Bool.and_assoc]
 ·simp only at h1 h2;rw[h2];cases e:Lib.atoiAll (kB s 47).2.1 with
  |ok v=>exact absurd e (h1 v)
  |range=>simp[vO]
  |_=>simp[vO]
end Go.T
namespace Go.T
open Go Go.Proofs Go.Proofs.Tryz
set_option maxRecDepth 20000
structure aaD(a b:List gi)where
 pre:List gi
 rest:List gi
 av:List gi
 aN:List gi
 hx:a=pre++rest
 hy:b=av++aN
 hp:pre=av
 oq:av.length=pre.length
 lz:aN.length=rest.length
theorem aaC(a b:List gi):Fc Tryz.prog 133 [tt a,tt b] (.b (nh a b)):=by
 refine bE func133 ntmps133 results133 ?_;refine U.ec 0 rfl (fun hb=>?_);simp only[List.length_map,aH]at hb;refine U.ec 1 rfl (fun iG=>?_);simp only[List.length_map,aH]at iG;refine go []<|br (fun h1=>?_) (fun h1=>?_)
 ·exact an rfl (Sub.bool (by exact Ej (by have h9:=h1;simp at h9;omega)))
 ·refine U.loop (ι:=aaD a b) (fun sx=>[(0,tt a),(1,tt b),(12,.i a.length),(13,.i sx.pre.length)]) (fun sx=>[]) (fun sx=>sx.rest.length) ⟨[],a,[],b,rfl,rfl,rfl,rfl,by simp at h1;omega⟩ ?_ ?_
  ·exact Le.mk rfl (.n 2 rfl rfl (.cons rfl (Sub.int zS) rfl (.s rfl rfl .nil))) .nil
  ·rintro⟨pre,rest,av,aN,hx,hy,hp,oq,lz⟩;dsimp only;rcases lc hx with⟨rfl,hl⟩|⟨x,rest,rfl,hl⟩
   ·obtain rfl:aN=[]:=List.length_eq_zero_iff.1 (by simpa using lz);exact go []<|aQ (by simp at hl⊢;omega)<|go []<|an rfl (Sub.bool (by exact Ei hx hy hp))
   ·obtain⟨y,aN,rfl⟩:=D1 (n:=rest.length) (by simpa using lz);refine go []<|bM zQ<|ix zO (bb rm hx rfl)<|ix zO (bb rm hy zO)<|oP (F8 (xs:=[x.iO,x.eX]) (ys:=[y.iO,y.eX]) underlying220 (by kernel_rfl) (by kernel_rfl) (.cons zK underlying9 isAgg9 rfl (.cons zK underlying37 isAgg37 rfl (.nil _))) rfl rfl rfl rfl rfl rfl)<|ord<|br (fun h2=>?_) (fun h2=>?_)
    ·exact an rfl (Sub.bool (by exact Ek hx hy oq (ahw h2)))
    ·exact sd (aB zO)<|nx ⟨pre++[x],rest,av++[y],aN,by simp[hx],by simp[hy],by rw[hp,ahv h2],by simp[oq],by simpa using lz⟩ zS (Le.mk rfl (.n 3 rfl rfl (.cons rfl (Sub.int zS) rfl .nil)) .nil)
structure aaB(a b:List ir)where
 pre:List ir
 rest:List ir
 av:List ir
 aN:List ir
 hx:a=pre++rest
 hy:b=av++aN
 hp:pre=av
 oq:av.length=pre.length
 lz:aN.length=rest.length
theorem aaA(a b:List ir):Fc Tryz.prog 134 [rW a,rW b] (.b (nh a b)):=by
 refine bE func134 ntmps134 results134 ?_;refine U.ec 0 rfl (fun hb=>?_);simp only[List.length_map,aH]at hb;refine U.ec 1 rfl (fun iG=>?_);simp only[List.length_map,aH]at iG;refine go []<|br (fun h1=>?_) (fun h1=>?_)
 ·exact an rfl (Sub.bool (by exact Ej (by have h9:=h1;simp at h9;omega)))
 ·refine U.loop (ι:=aaB a b) (fun sx=>[(0,rW a),(1,rW b),(12,.i a.length),(13,.i sx.pre.length)]) (fun sx=>[]) (fun sx=>sx.rest.length) ⟨[],a,[],b,rfl,rfl,rfl,rfl,by simp at h1;omega⟩ ?_ ?_
  ·exact Le.mk rfl (.n 2 rfl rfl (.cons rfl (Sub.int zS) rfl (.s rfl rfl .nil))) .nil
  ·rintro⟨pre,rest,av,aN,hx,hy,hp,oq,lz⟩;dsimp only;rcases lc hx with⟨rfl,hl⟩|⟨x,rest,rfl,hl⟩
   ·obtain rfl:aN=[]:=List.length_eq_zero_iff.1 (by simpa using lz);exact go []<|aQ (by simp at hl⊢;omega)<|go []<|an rfl (Sub.bool (by exact Ei hx hy hp))
   ·obtain⟨y,aN,rfl⟩:=D1 (n:=rest.length) (by simpa using lz);refine go []<|bM zQ<|ix zO (bb tN hx rfl)<|ix zO (bb tN hy zO)<|oP (aiy (xs:=(x8 x)) (ys:=(x8 y)) underlying223 (by kernel_rfl) (by kernel_rfl) (.str zK underlying9 isAgg9 rfl (.sub zK underlying75 (by kernel_rfl) isAgg75 sizeOf75 rfl (.cons zK underlying37 isAgg37 rfl (.cons zK underlying37 isAgg37 rfl (.nil _))) rfl (.sub zK underlying75 (by kernel_rfl) isAgg75 sizeOf75 rfl (.cons zK underlying37 isAgg37 rfl (.cons zK underlying37 isAgg37 rfl (.nil _))) rfl (.sub zK underlying75 (by kernel_rfl) isAgg75 sizeOf75 rfl (.cons zK underlying37 isAgg37 rfl (.cons zK underlying37 isAgg37 rfl (.nil _))) rfl (.nil _))))) rfl rfl rfl rfl rfl rfl)<|ord<|br (fun h2=>?_) (fun h2=>?_)
    ·exact an rfl (Sub.bool (by exact Ek hx hy oq (ag8 h2)))
    ·exact sd (aB zO)<|nx ⟨pre++[x],rest,av++[y],aN,by simp[hx],by simp[hy],by rw[hp,ag7 h2],by simp[oq],by simpa using lz⟩ zS (Le.mk rfl (.n 3 rfl rfl (.cons rfl (Sub.int zS) rfl .nil)) .nil)
theorem ajx(a b:Fact):Fc Tryz.prog 98 [.agg (ed a),.agg (ed b)] (.b (UN a b)):=by
 refine bE func98 ntmps98 results98 ?_;exact go []<|gP (fun hg=>F6 (xs:=[a.iQ.num,a.iQ.den]) (ys:=[b.iQ.num,b.iQ.den]) underlying75 (by kernel_rfl) (by kernel_rfl) (.cons zK underlying37 isAgg37 rfl (.cons zK underlying37 isAgg37 rfl (.nil _))) rfl rfl rfl rfl rfl rfl)<|gP (fun hg=>F6 (xs:=[a.ratio.num,a.ratio.den]) (ys:=[b.ratio.num,b.ratio.den]) underlying75 (by kernel_rfl) (by kernel_rfl) (.cons zK underlying37 isAgg37 rfl (.cons zK underlying37 isAgg37 rfl (.nil _))) rfl rfl rfl rfl rfl rfl)<|gP (fun hg=>F6 (xs:=[a.share.num,a.share.den]) (ys:=[b.share.num,b.share.den]) underlying75 (by kernel_rfl) (by kernel_rfl) (.cons zK underlying37 isAgg37 rfl (.cons zK underlying37 isAgg37 rfl (.nil _))) rfl rfl rfl rfl rfl rfl)<|gP (fun hg=>aj call133 rfl (aaC _ _))<|gP (fun hg=>aj call134 rfl (aaA _ _))<|an rfl (Sub.refl _)
theorem VU(f:Fact)(n:Int)(h0:0≤n)(hn:n<13):Fc Tryz.prog 143 [.agg (ed f),.i n] (.agg (iL (r3 f n))):=by
 refine Fc.j2 func143 rfl ntmps143 rfl rfl rfl ?_;refine go [1,99999] ?_;refine U.bC (Le.h_ 2 0 rfl rfl rfl rfl) ?_;refine go [99999]<|oP (aj call196 rfl (GM _))<|oP (aj call196 rfl (GM _))<|oP (aj call196 rfl (GM _))<|oP (Ue (r:=iL (r3 f n)) underlying287 isAgg75 sizeOf75 rfl rfl h0 hn zQ (am' h0 hn))<|ord<|U.ret (?_);exact Rd.cA results143 isAgg75 sizeOf75 rfl rfl rfl (Sub.agg (.r (.r .nil)))
theorem Ou(f:Fact)(n:Int)(h0:0≤n)(hn:n<13):Fc Tryz.prog 101 [.agg (ed f),.i n] (.b (qn f n)):=by
 refine bE func101 ntmps101 results101 ?_;refine go []<|br (fun h1=>?_) (fun h1=>?_)
 ·exact an rfl (Sub.bool (by(try simp only[List.length_map]);unfold qn;exact iT h1))
 ·refine br (fun h2=>?_) (fun h2=>?_)
  ·exact an rfl (Sub.bool (by(try simp only[List.length_map]);unfold qn;exact iF h1 (iT h2)))
  ·refine br (fun h3=>?_) (fun h3=>?_)
   ·exact an rfl (Sub.bool (by(try simp only[List.length_map]);unfold qn;exact iF h1 (iF h2 (iT h3))))
   ·refine br (fun h4=>?_) (fun h4=>?_)
    ·exact an rfl (Sub.bool (by(try simp only[List.length_map]);unfold qn;exact iF h1 (iF h2 (iF h3 (iT h4)))))
    ·refine br (fun h5=>?_) (fun h5=>?_)
     ·exact an rfl (Sub.bool (by(try simp only[List.length_map]);unfold qn;exact iF h1 (iF h2 (iF h3 (iF h4 (iT h5))))))
     ·refine br (fun h6=>?_) (fun h6=>?_)
      ·exact an rfl (Sub.bool (by(try simp only[List.length_map]);unfold qn;exact iF h1 (iF h2 (iF h3 (iF h4 (iF h5 (iT h6)))))))
      ·refine br (fun h7=>?_) (fun h7=>?_)
       ·exact an rfl (Sub.bool (by(try simp only[List.length_map]);unfold qn;exact iF h1 (iF h2 (iF h3 (iF h4 (iF h5 (iF h6 (iT h7))))))))
       ·exact oP (aj call143 rfl (VU _ _ zA zA))<|oP (F6 (xs:=[(r3 f n).num,(r3 f n).den]) (ys:=[yE.num,yE.den]) underlying75 (by kernel_rfl) (by kernel_rfl) (.cons zK underlying37 isAgg37 rfl (.cons zK underlying37 isAgg37 rfl (.nil _))) rfl rfl rfl rfl rfl rfl)<|an rfl (Sub.bool (by(try simp only[List.length_map]);unfold qn;exact iF h1 (iF h2 (iF h3 (iF h4 (iF h5 (iF h6 (iF h7 (abC _ _)))))))))
theorem ad6(s:ae)(hs:s.length≤200):Fc Tryz.prog 193 [.str s] (.b (vN s)):=by
 refine bE func193 ntmps193 results193 ?_;have hc:=YX s;refine go [2,3]<|oP (aj call238 rfl (ako _ _))<|U.wo<|Tx.q rfl trivial (bG rfl _)<|Tx.n rfl trivial (T' call239 rfl (WQ _ zO) _) (fun nb dz=>?_);dsimp only;exact Tx.q rfl trivial (bG rfl _)<|Tx.q rfl trivial (iJ rfl rfl _)<|Tx.q rfl trivial (iJ rfl rfl _)<|Tx.q rfl trivial (Ax rfl _)<|Tx.q rfl trivial (Ax rfl _)<|Tx.nil<|go [2,3]<|U.cH [.p,.p,.p,.p,.p,.p,.p,.p,.p,.p,.p,.p,.p,.p,.p,.p,.p,.p,.p,.p,.p]<|.mv rfl rfl<|.P rfl (aj call97 rfl (Cw _))<|.mv rfl rfl<|.gT rfl (.inl rfl) rfl rfl rfl (fun hg=>pk (fun _=>bG rfl _))<|.gT rfl (.inl rfl) rfl rfl rfl (fun hg=>pk (fun _=>aik underlying245 (bI rfl hg) (WO dz) _))<|.P rfl (kN rfl rfl)<|.mv rfl rfl<|.gT rfl (.inl rfl) rfl rfl rfl (fun hg=>pk (fun _=>bG rfl _))<|.gT rfl (.inl rfl) rfl rfl rfl (fun hg=>pk (fun _=>tm (bI rfl hg) rfl _))<|.P rfl (kN rfl rfl)<|.mv rfl rfl<|.gT rfl (.inl rfl) rfl rfl rfl (fun hg=>pk (fun _=>bG rfl _))<|.gT rfl (.inl rfl) rfl rfl rfl (fun hg=>pk (fun _=>Lp (bI rfl hg) rfl _))<|.P rfl (kN rfl rfl)<|.mv rfl rfl<|.gT rfl (.inl rfl) rfl rfl rfl (fun hg=>pk (fun _=>bG rfl _))<|.gT rfl (.inl rfl) rfl rfl rfl (fun hg=>pk (fun _=>aj call240 (cB (bI rfl hg) (rfl)) (ad9 _ (by simp[yB]at hg;omega) (by simp[yB]at hg;omega)) _))<|.gT rfl (.inl rfl) rfl rfl rfl (fun hg=>pk (fun _=>bG rfl _))<|.gT rfl (.inl rfl) rfl rfl rfl (fun hg=>pk (fun _=>Az (bI rfl hg) (bI rfl hg) _))<|.P rfl (kN rfl rfl)<|.ag rfl rfl<|.nil<|go [2,3]<|an rfl (Sub.bool (by exact ad5 dz))
end Go.T
namespace Go.T
open Go
def mH(q:ae)(pre:List gi)(sum:ae):List gi→Int
 |[]=>if decide (0<jf (val sum-val q))=true then 15 else 0
 |p::r=>if(!vN p.iO)=true then 23 else if pre.any (fun y=>decide (y.iO=p.iO))=true then 5 else if decide (mF true false ⟨p.eX,[]⟩≠0)=true then mF true false ⟨p.eX,[]⟩else mH q (pre++[p]) (ma sum p.eX) r
def ya(f:Fact):Int:=if decide (64<(f.ll.length:Int))=true then 4 else mH f.eX [] [] f.ll
theorem ahx{f:Fact}(h:decide (64<(f.ll.length:Int))=false):ya f=mH f.eX [] [] f.ll:=by rw[ya,if_neg (by rw[h];simp)]
theorem ahy{e:Int}{q sum:ae}{pre rest:List gi}{x:gi}(hp:e=mH q pre sum (x::rest))(h:(!vN x.iO)=true):23=e:=by rw[hp,mH,if_pos h]
theorem ahz{e:Int}{q sum:ae}{pre rest:List gi}{x:gi}(hp:e=mH q pre sum (x::rest))(h:(!vN x.iO)=false)(h2:pre.any (fun y=>decide (y.iO=x.iO))=true):5=e:=by rw[hp,mH,if_neg (by rw[h];simp),if_pos h2]
theorem ahA{e:Int}{q sum:ae}{pre rest:List gi}{x:gi}(hp:e=mH q pre sum (x::rest))(h:(!vN x.iO)=false)(h2:pre.any (fun y=>decide (y.iO=x.iO))=false)(h3:decide (mF true false ⟨x.eX,[]⟩≠0)=true):mF true false ⟨x.eX,[]⟩=e:=by
 rw[hp,mH,if_neg (by rw[h];simp),if_neg (by rw[h2];simp),if_pos h3]
theorem ahB{e:Int}{q sum:ae}{pre rest:List gi}{x:gi}(hp:e=mH q pre sum (x::rest))(h:(!vN x.iO)=false)(h2:pre.any (fun y=>decide (y.iO=x.iO))=false)(h3:decide (mF true false ⟨x.eX,[]⟩≠0)=false):e=mH q (pre++[x]) (ma sum x.eX) rest:=by
 rw[hp,mH,if_neg (by rw[h];simp),if_neg (by rw[h2];simp),if_neg (by rw[h3];simp)]
def sZ:List cF→Int→Int
 |[],d=>d
 |x::r,d=>if decide (mF false false x≠0)=true then mF false false x else sZ r d
def KU(o:ir):Bool:=(decide (o.other≠[])!=(!decide ([o.ratio.num,o.ratio.den]=[[],[]])))||(decide (o.other=[])&&!decide ([o.value.num,o.value.den]=[[],[]]))
def FT(i:ae)(o:ir)(d:Int):Int:=if(decide (o.other≠[])&&!isName o.other)=true then 23 else if decide (o.other=i)=true then 18 else sZ [o.ratio,o.iQ,o.value] (if KU o=true then 2 else d)
def qR(i:ae):List ir→Int
 |[]=>0
 |o::r=>FT i o (qR i r)
def tf(f:Fact):Int:=if decide ((f.opts.length:Int)=0)=true then 11 else if decide (8<(f.opts.length:Int))=true then 4 else qR f.ie f.opts
theorem ag9{f:Fact}(h:decide ((f.opts.length:Int)=0)=false)(h2:decide (8<(f.opts.length:Int))=false):tf f=qR f.ie f.opts:=by rw[tf,if_neg (by rw[h];simp),if_neg (by rw[h2];simp)]
theorem ag2{e:Int}{i:ae}{o:ir}{r:List ir}(hp:e=qR i (o::r))(h:(decide (o.other≠[])&&!isName o.other)=true):23=e:=by rw[hp,qR,FT,if_pos h]
theorem ag3{e:Int}{i:ae}{o:ir}{r:List ir}(hp:e=qR i (o::r))(h:(decide (o.other≠[])&&!isName o.other)=false)(h2:decide (o.other=i)=true):18=e:=by rw[hp,qR,FT,if_neg (by rw[h];simp),if_pos h2]
theorem ag4{e:Int}{i:ae}{o:ir}{r:List ir}(hp:e=qR i (o::r))(h:(decide (o.other≠[])&&!isName o.other)=false)(h2:decide (o.other=i)=false):e=sZ [o.ratio,o.iQ,o.value] (if KU o=true then 2 else qR i r):=by
 rw[hp,qR,FT,if_neg (by rw[h];simp),if_neg (by rw[h2];simp)]
theorem afq{e d:Int}{x:cF}{r:List cF}(h:e=sZ (x::r) d)(k:decide (mF false false x≠0)=true):mF false false x=e:=by rw[h,sZ,if_pos k]
theorem afp{e d:Int}{x:cF}{r:List cF}(h:e=sZ (x::r) d)(k:decide (mF false false x≠0)=false):e=sZ r d:=by rw[h,sZ,if_neg (by rw[k];simp)]
theorem RW{e d:Int}(h:e=sZ [] d):e=d:=h
theorem ag5{e d:Int}{b:Bool}(h:e=if b=true then 2 else d)(hb:b=false):e=d:=by rw[h,if_neg (by rw[hb];simp)]
theorem ag6{e d:Int}{b:Bool}(h:e=if b=true then 2 else d)(hb:b=true):2=e:=by rw[h,if_pos hb]
theorem ahE{f:Fact}(h:decide (64<(f.ll.length:Int))=true):4=ya f:=by rw[ya,if_pos h]
theorem ahC{e:Int}{q sum:ae}{pre:List gi}(hp:e=mH q pre sum [])(h:decide (0<jf (val sum-val q))=true):15=e:=by rw[hp,mH,if_pos h]
theorem ahD{e:Int}{q sum:ae}{pre:List gi}(hp:e=mH q pre sum [])(h:decide (0<jf (val sum-val q))=false):0=e:=by rw[hp,mH,if_neg (by rw[h];simp)]
theorem ag_{f:Fact}(h:decide ((f.opts.length:Int)=0)=true):11=tf f:=by rw[tf,if_pos h]
theorem ag'{f:Fact}(h:decide ((f.opts.length:Int)=0)=false)(h2:decide (8<(f.opts.length:Int))=true):4=tf f:=by rw[tf,if_neg (by rw[h];simp),if_pos h2]
structure qp(f:Fact):Prop where
 ll:∀p∈f.ll,p.iO.length≤200∧p.eX.length≤60
 eX:f.eX.length≤60
 cV:f.cV.length≤60
 tS:f.tS.length≤60
 iQ:mO f.iQ
 ratio:mO f.ratio
 share:mO f.share
 opts:∀o∈f.opts,mO o.ratio∧mO o.iQ∧mO o.value
open Go.Proofs Go.Proofs.Tryz
set_option maxRecDepth 20000
structure X2(f:Fact)where
 pre:List gi
 rest:List gi
 sum:ae
 hx:f.ll=pre++rest
 hp:ya f=mH f.eX pre sum rest
 qI:sum.length≤62*pre.length
 P3:f.ll.length≤64
theorem Np(f:Fact)(hf:qp f):Fc Tryz.prog 141 [.agg (ed f)] (.i (ya f)):=by
 refine bE func141 ntmps141 results141 ?_;refine U.rh 0 18 rfl rfl (fun hb=>?_);simp only[List.length_map,aH]at hb;refine go [9]<|br (fun h1=>?_) (fun h1=>?_)
 ·exact an rfl (Sub.int (by exact ahE (by simpa using h1)))
 ·refine U.loop (ι:=X2 f) (fun sx=>[(1,.box 0 0),(3,.str sx.sum),(12,tt f.ll),(13,.i f.ll.length),(14,.i sx.pre.length)]) (fun sx=>[(0,.cells (ed f))]) (fun sx=>sx.rest.length) ⟨[],_,[],rfl,ahx (by simpa using h1),by simp,by have h9:=h1;simp at h9;omega⟩ ?_ ?_
  ·exact Le.mk rfl (.n 3 rfl rfl (.cons rfl (Sub.int zS) rfl (.s rfl rfl .nil))) (.cons rfl rfl .nil)
  ·rintro⟨pre,rest,sum,hx,hp,qI,P3⟩;dsimp only;rcases lc hx with⟨rfl,hl⟩|⟨x,rest,rfl,hl⟩
   ·skip;refine go [9]<|aQ (by simp at hl⊢;omega)<|go [9]<|oP (aj call119 rfl (yQ sum f.eX zO (by have:=hf.eX;omega)))<|br (fun h2=>?_) (fun h2=>?_)
    ·exact an rfl (Sub.int (by exact ahC hp h2))
    ·exact an rfl (Sub.int (by exact ahD hp h2))
   ·have JP:=hf.ll x (by rw[hx];simp);refine go [9]<|bM zQ<|ix zO (bb rm hx rfl)<|oP (aj call193 rfl (ad6 x.iO JP.1))<|br (fun h3=>?_) (fun h3=>?_)
    ·exact an rfl (Sub.int (by exact ahy hp h3))
    ·refine U.bC (Le.h_ 5 1 rfl rfl rfl rfl) ?_;refine go []<|oP (kp underlying78 sizeOf220 rfl (l:=0) (h:=pre.length) (r:=pre.map rm) (.inl ⟨rfl,rfl⟩) (.inr ⟨_,_,rfl,rfl⟩) zO (by simp[hx]) (by rw[hx];simp))<|oP (aj call194 rfl (YK pre _ [.bz (rm x)] rfl (fun y=>decide (y.iO=x.iO)) call195 (fun y _=>ajw y x)))<|br (fun h4=>?_) (fun h4=>?_)
     ·exact an rfl (Sub.int (by exact ahz hp h3 h4))
     ·refine oP (aj call135 rfl (A8 _ _))<|oP (aj call196 rfl (GM _))<|oP (cR call187 rfl rfl (KM ⟨x.eX,[]⟩ true false ⟨JP.2,by simp⟩))<|ord<|br (fun h5=>?_) (fun h5=>?_)
      ·exact an rfl (Sub.int (by exact ahA hp h3 h4 h5))
      ·exact oP (aj call76 rfl (MP sum x.eX zO zO))<|go [9]<|sd (aB zO)<|nx ⟨pre++[x],rest,ma sum x.eX,by simp[hx],ahB hp h3 h4 h5,by have:=Wz sum x.eX;have:=JP.2;simp;omega,P3⟩ zS (Le.mk rfl (.n 4 rfl rfl (.cons rfl (Sub.int zS) rfl .nil)) (.cons rfl rfl .nil))
structure X0(f:Fact)where
 pre:List ir
 rest:List ir
 hx:f.opts=pre++rest
 hp:tf f=qR f.ie rest
structure X1(f:Fact)(pre rest:List ir)(x:ir)where
 av:List cF
 aN:List cF
 bg:[x.ratio,x.iQ,x.value]=av++aN
 hq:tf f=sZ aN (if KU x=true then 2 else qR f.ie rest)
theorem No(f:Fact)(hf:qp f):Fc Tryz.prog 142 [.agg (ed f)] (.i (tf f)):=by
 refine bE func142 ntmps142 results142 ?_;refine U.rh 0 19 rfl rfl (fun hb=>?_);simp only[List.length_map,aH]at hb;refine go []<|br (fun h1=>?_) (fun h1=>?_)
 ·exact an rfl (Sub.int (by exact ag_ (by simpa using h1)))
 ·refine br (fun h2=>?_) (fun h2=>?_)
  ·exact an rfl (Sub.int (by exact ag' (by simpa using h1) (by simpa using h2)))
  ·refine U.loop (ι:=X0 f) (fun sx=>[(1,.box 0 0),(17,rW f.opts),(18,.i f.opts.length),(19,.i sx.pre.length)]) (fun sx=>[(0,.cells (ed f))]) (fun sx=>sx.rest.length) ⟨[],_,rfl,ag9 (by simpa using h1) (by simpa using h2)⟩ ?_ ?_
   ·exact Le.mk rfl (.n 2 rfl rfl (.cons rfl (Sub.int zS) rfl (.s rfl rfl .nil))) (.cons rfl rfl .nil)
   ·rintro⟨pre,rest,hx,hp⟩;dsimp only;rcases lc hx with⟨rfl,hl⟩|⟨x,rest,rfl,hl⟩
    ·skip;exact go []<|aQ (by simp at hl⊢;omega)<|go []<|an rfl (Sub.int (by rw[hp];rfl))
    ·have nE:=hf.opts x (by rw[hx];simp);refine go []<|bM zQ<|ix zO (bb tN hx rfl)<|gP (fun hg=>aj call97 rfl (Cw _))<|br (fun h3=>?_) (fun h3=>?_)
     ·exact an rfl (Sub.int (by exact ag2 hp h3))
     ·refine br (fun h4=>?_) (fun h4=>?_)
      ·exact an rfl (Sub.int (by exact ag3 hp h3 h4))
      ·refine oP (cm (n:=3) (rows:=[iL x.ratio,iL x.iQ,iL x.value]) underlying278 sizeOf75 rfl rfl rfl zeroValue75 rfl rfl rfl rfl rfl rfl rfl)<|U.loop (ι:=X1 f pre rest x) (fun sx=>[(1,.box 0 0),(4,.box 1 0),(17,rW f.opts),(18,.i f.opts.length),(19,.i pre.length),(43,.snap 2 true ([x.ratio,x.iQ,x.value].map iL)),(44,.i 3),(45,.i sx.av.length)]) (fun sx=>[(0,.cells (ed f)),(1,.cells (tN x))]) (fun sx=>sx.aN.length) ⟨[],_,rfl,ag4 hp h3 h4⟩ ?_ ?_
       ·exact Le.mk rfl (.n 8 rfl rfl .nil) (.cons rfl rfl (.cons rfl rfl .nil))
       ·rintro⟨av,aN,bg,hq⟩;dsimp only;have bW:=congrArg List.length bg;simp only[List.length_append,List.length_cons,List.length_nil]at bW;rcases aN with _|⟨x2,aN⟩
        ·skip;refine go []<|aQ (by simp at bW⊢;omega)<|go []<|oP (F8 (xs:=[x.ratio.num,x.ratio.den]) (ys:=[[],[]]) underlying75 (by kernel_rfl) (by kernel_rfl) (.cons zK underlying37 isAgg37 rfl (.cons zK underlying37 isAgg37 rfl (.nil _))) rfl rfl rfl rfl rfl rfl)<|gP (fun hg=>F8 (xs:=[x.value.num,x.value.den]) (ys:=[[],[]]) underlying75 (by kernel_rfl) (by kernel_rfl) (.cons zK underlying37 isAgg37 rfl (.cons zK underlying37 isAgg37 rfl (.nil _))) rfl rfl rfl rfl rfl rfl)<|ord<|br (fun h5=>?_) (fun h5=>?_)
         ·exact an rfl (Sub.int (by exact ag6 (RW hq) h5))
         ·exact go []<|sd (aB zO)<|nx ⟨pre++[x],rest,by simp[hx],ag5 (RW hq) h5⟩ zS (Le.mk rfl (.n 3 rfl rfl (.cons rfl (Sub.int zS) rfl .nil)) (.cons rfl rfl .nil))
        ·simp only[List.length_cons]at bW;have nC:=Sy bg;refine go []<|bM zQ<|ix zO (bb iL bg rfl)<|oP (aj call135 rfl (A8 _ _))<|oP (cR call187 rfl rfl (KM x2 false false (by rcases nC with rfl|rfl|rfl;exact nE.1;exact nE.2.1;exact nE.2.2)))<|ord<|br (fun h6=>?_) (fun h6=>?_)
         ·exact an rfl (Sub.int (by exact afq hq h6))
         ·exact sd (aB zO)<|nx ⟨av++[x2],aN,by simp[bg],afp hq h6⟩ zS (Le.mk rfl (.n 7 rfl rfl (.cons rfl (Sub.int zS) rfl .nil)) (.cons rfl rfl (.cons rfl rfl .nil)))
end Go.T
namespace Go.T
open Go
variable[bT]
@[reducible] def eO(s:ae):Prop:=s.length≤aH
theorem O6(k:ae):∀(es:List MapEntry)(ks:List ae)(i:Nat),es.map (·.key)=ks.map Dp→Instr.findNow .string (Dp k) es i=some ((kU k ks i).map fun j=>(j,(es[j-i]?.map (·.val)).getD undef))
 |[],[],i,_=>by simp[Instr.findNow,kU]
 |[],_::_,i,h=>by simp at h
 |_::_,[],i,h=>by simp at h
 |e::es,x::ks,i,h=>by
  simp only[List.map_cons,List.cons.injEq]at h;have ih:=O6 k es ks (i+1) h.2;simp only[Instr.findNow,h.1,Instr.sameNow,Vh];by_cases hx:k=x
  ·subst hx;simp[kU]
  ·simp only[kU,hx,if_false,decide_false];rw[ih];cases hf:kU k ks (i+1)with
   |none=>rfl
   |some j=>
    have:=Il hf;simp only[Option.map_some];rw[show j-i=(j-(i+1))+1 by omega,List.getElem?_cons_succ]
theorem aey{P:Program}{kt:TypeId}(hu:P.underlying kt=some .string):lu P kt D.str Dp eO:=by
 refine⟨?_,?_,?_,?_,?_⟩
 ·intro w O ρ k v h;simp only[V]at h;exact h
 ·intro w O ρ k h;simp only[V];exact⟨trivial,h⟩
 ·intro b k w _;show(Instr.checkKey b (9999+1) kt _).run P w=_;rw[Instr.checkKey];simp[cg hu]
 ·intro k es ks w I' _ _;have:=O6 k es ks 0 I';simp only[Nat.sub_zero]at this;simp[Instr.findKey,cg hu,this]
 ·intro k w;simp[Instr.keyThatStays,Instr.sameBits,Vh]
end Go.T
namespace Go.T
open Go
variable[bT]
theorem O5(ik:IntKind)(k:Int):∀(es:List MapEntry)(ks:List Int)(i:Nat),es.map (·.key)=ks.map (Value.int ik)→Instr.findNow (.int ik) (.int ik k) es i=some ((kU k ks i).map fun j=>(j,(es[j-i]?.map (·.val)).getD undef))
 |[],[],i,_=>by simp[Instr.findNow,kU]
 |[],_::_,i,h=>by simp at h
 |_::_,[],i,h=>by simp at h
 |e::es,x::ks,i,h=>by
  simp only[List.map_cons,List.cons.injEq]at h;have ih:=O5 ik k es ks (i+1) h.2;simp only[Instr.findNow,h.1,Instr.sameNow];by_cases hx:k=x
  ·subst hx;simp[kU]
  ·have hb:(k==x)=false:=by simpa using hx
   simp only[kU,hx,if_false,hb];rw[ih];cases hf:kU k ks (i+1)with
   |none=>rfl
   |some j=>
    have:=Il hf;simp only[Option.map_some];rw[show j-i=(j-(i+1))+1 by omega,List.getElem?_cons_succ];simp
theorem aex{P:Program}{kt:TypeId}{ik:IntKind}(hu:P.underlying kt=some (.int ik)):lu P kt (fun n:Int=>D.raw (.int ik n)) (Value.int ik) (fun _=>True):=by
 refine⟨?_,?_,?_,?_,?_⟩
 ·intro w O ρ k v h;simp only[V]at h;exact⟨h,trivial⟩
 ·intro w O ρ k _;simp only[V]
 ·intro b k w _;show(Instr.checkKey b (9999+1) kt _).run P w=_;rw[Instr.checkKey];simp[cg hu]
 ·intro k es ks w I' _ _;have:=O5 ik k es ks 0 I';simp only[Nat.sub_zero]at this;simp[Instr.findKey,cg hu,this]
 ·intro k w;simp[Instr.keyThatStays,Instr.sameBits]
end Go.T
