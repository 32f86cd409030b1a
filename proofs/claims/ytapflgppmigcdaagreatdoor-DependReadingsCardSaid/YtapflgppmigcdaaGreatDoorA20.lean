/- Contracts of functions that the statement reaches, and the logic in which they are proved (no condition). -/
import Derived.Test.YtapflgppmigcdaaGreatDoorA19
set_option linter.all false
set_option maxRecDepth 20000
namespace Go.T
open Go Go.Proofs Go.Proofs.Tryz
def TE{α:Type}{P:α->Bool}{l pre rest:List α}{x:α}(h:l=pre++x::rest)(hp:pre.any P=false)(hx:P x=true):fw P l=(pre.length:Int)/\l.any P=true:=by
 have key:∀p:List α,p.any P=false->List.findIdx P (p++x::rest)=p.length:=by
  intro p hp;induction p with
  |nil=>simp[BA,hx]
  |cons a p ih=>
   rw[pJ,cq]at hp;rw[jF,BA,hp.1,ih hp.2];rfl
 have ha:l.any P=true:=by rw[h];simp[hx]
 refine⟨?_,ha⟩;unfold fw;rw[aV ha,h,key pre hp]
def ahr{α:Type}{P:α->Bool}{l:List α}(h:l.any P=false):fw P l=-1:=by
 unfold fw;rw[aF (by rw[h];simp)]
def F2(k:Int):Fc prog 105 [.i k] (.i (gS k)):=by
 refine ay func105 ntmps105 results105 ?_;refine go []<|br (fun h1=>?_) (fun h1=>?_)
 ·exact aM h1<|af rfl (Sub.int (by obtain rfl:=aG h1;rfl))
 ·refine br (fun h2=>?_) (fun h2=>?_)
  ·exact aM h2<|af rfl (Sub.int (by obtain rfl:=aG h2;rfl))
  ·refine br (fun h3=>?_) (fun h3=>?_)
   ·exact aM h3<|af rfl (Sub.int (by obtain rfl:=aG h3;rfl))
   ·refine br (fun h4=>?_) (fun h4=>?_)
    ·exact aM h4<|af rfl (Sub.int (by obtain rfl:=aG h4;rfl))
    ·refine br (fun h5=>?_) (fun h5=>?_)
     ·exact aM h5<|af rfl (Sub.int (by obtain rfl:=aG h5;rfl))
     ·refine br (fun h6=>?_) (fun h6=>?_)
      ·exact af rfl (Sub.int (by obtain rfl:=aG h6;rfl))
      ·refine br (fun h7=>?_) (fun h7=>?_)
       ·exact aM h7<|af rfl (Sub.int (by obtain rfl:=aG h7;rfl))
       ·refine br (fun h8=>?_) (fun h8=>?_)
        ·exact aM h8<|af rfl (Sub.int (by obtain rfl:=aG h8;rfl))
        ·refine br (fun h9=>?_) (fun h9=>?_)
         ·exact aM h9<|af rfl (Sub.int (by obtain rfl:=aG h9;rfl))
         ·refine br (fun cB=>?_) (fun cB=>?_)
          ·exact aM cB<|af rfl (Sub.int (by obtain rfl:=aG cB;rfl))
          ·refine br (fun cD=>?_) (fun cD=>?_)
           ·exact aM cD<|af rfl (Sub.int (by obtain rfl:=aG cD;rfl))
           ·refine br (fun cW=>?_) (fun cW=>?_)
            ·exact af rfl (Sub.int (by obtain rfl:=aG cW;rfl))
            ·refine br (fun fy=>?_) (fun fy=>?_)
             ·exact aM fy<|af rfl (Sub.int (by obtain rfl:=aG fy;rfl))
             ·refine br (fun j3=>?_) (fun j3=>?_)
              ·exact aM j3<|af rfl (Sub.int (by obtain rfl:=aG j3;rfl))
              ·refine br (fun kY=>?_) (fun kY=>?_)
               ·exact af rfl (Sub.int (by obtain rfl:=aG kY;rfl))
               ·refine br (fun iq=>?_) (fun iq=>?_)
                ·exact aM iq<|af rfl (Sub.int (by obtain rfl:=aG iq;rfl))
                ·refine br (fun mK=>?_) (fun mK=>?_)
                 ·exact aM mK<|af rfl (Sub.int (by obtain rfl:=aG mK;rfl))
                 ·refine br (fun pj=>?_) (fun pj=>?_)
                  ·exact af rfl (Sub.int (by obtain rfl:=aG pj;rfl))
                  ·exact af rfl (Sub.int (by simp only[bs]at*;simp[gS,eU, *]))
def adQ(a b:Fact):Fc prog 60 [.agg (aJ a),.agg (aJ b)] (.i (lJ a b)):=by
 refine ay func60 ntmps60 results60 ?_;refine go []<|br (fun h1=>?_) (fun h1=>?_)
 ·refine br (fun h2=>?_) (fun h2=>?_)
  ·exact af rfl (Sub.int (by unfold lJ;exact fI h1 (iT h2)))
  ·exact af rfl (Sub.int (by unfold lJ;exact fI h1 (iF h2 rfl)))
 ·refine oP (ah call105 rfl (F2 _))<|oP (ah call105 rfl (F2 _))<|ord<|br (fun h3=>?_) (fun h3=>?_)
  ·refine oP (ah call105 rfl (F2 _))<|oP (ah call105 rfl (F2 _))<|ord<|br (fun h4=>?_) (fun h4=>?_)
   ·exact af rfl (Sub.int (by unfold lJ;exact iF h1 (fI h3 (iT h4))))
   ·exact af rfl (Sub.int (by unfold lJ;exact iF h1 (fI h3 (iF h4 rfl))))
  ·refine br (fun h5=>?_) (fun h5=>?_)
   ·refine br (fun h6=>?_) (fun h6=>?_)
    ·exact af rfl (Sub.int (by unfold lJ;exact iF h1 (iF h3 (fI h5 (iT h6)))))
    ·exact af rfl (Sub.int (by unfold lJ;exact iF h1 (iF h3 (fI h5 (iF h6 rfl)))))
   ·exact af rfl (Sub.int (by unfold lJ;exact iF h1 (iF h3 (iF h5 rfl))))
structure ahn(l:List Fact)(k:aa)(hl:l.length<=1000)where
 pre:List Fact
 rest:List Fact
 hx:l=pre++rest
 hp:pre.any (fun y:Fact=>decide (y.key=k))=false
def TD(l:List Fact)(k:aa)(hl:l.length<=1000):Fc prog 59 [aQ l,.str k] (.a_ [.i (max (fw (fun y:Fact=>decide (y.key=k)) l) 0),.b (l.any (fun y:Fact=>decide (y.key=k)))]):=by
 refine gq func59 ntmps59 results59 ?_;refine go []<|U.loop (ι:=ahn l k hl) (fun sx=>[(0,aQ l),(1,.str k),(6,.i sx.pre.length)]) (fun sx=>[]) (fun sx=>sx.rest.length) ⟨[],_,rfl,rfl⟩ ?_ ?_
 ·exact Le.mk rfl (.n 3 rfl rfl .nil) .nil
 ·rintro⟨pre,rest,hx,hp⟩;dsimp only;rcases lc hx with⟨rfl,hl⟩|⟨x,rest,rfl,hl⟩
  ·exact go []<|aH (by simp at hl|-;omega)<|go []<|cw rfl rfl (Sub.int (by(rw[ahr (by rw[hx,iJ];exact hp)];rfl))) (Sub.bool (by rw[hx,iJ,hp]))
  ·refine go []<|aM zQ<|ix zO (aK aJ hx rfl)<|br (fun h1=>?_) (fun h1=>?_)
   ·exact cw rfl rfl (Sub.int (by(rw[(TE hx hp h1).1];omega))) (Sub.bool (by rw[(TE hx hp h1).2]))
   ·exact sd (ao zO)<|nx ⟨pre++[x],rest,by simp[hx],by rw[pH,hp];simpa using h1⟩ zS (Le.mk rfl (.n 2 rfl rfl (.cons rfl (Sub.int zS) rfl .nil)) .nil)
structure atC(l:List Fact)(hf:∀f∈l,pa f)where
 pre:List Fact
 rest:List Fact
 hx:l=pre++rest
 hp:lI l=rA pre rest
 Dh:l.length<=1000
def JJ(l:List Fact)(hf:∀f∈l,pa f):Fc prog 24 [aQ l] (.i (lI l)):=by
 refine ay func24 ntmps24 results24 ?_;refine U.eh 0 rfl (fun hb=>?_);simp only[bB,aD]at hb;refine go []<|br (fun h1=>?_) (fun h1=>?_)
 ·exact af rfl (Sub.int (by(unfold lI;exact iT (by simpa using h1))))
 ·refine U.loop (ι:=atC l hf) (fun sx=>[(0,aQ l),(3,.i sx.pre.length)]) (fun sx=>[]) (fun sx=>sx.rest.length) ⟨[],_,rfl,by unfold lI;rw[aF (by simpa using h1)],by simp at h1;omega⟩ ?_ ?_
  ·exact Le.mk rfl (.n 2 rfl rfl .nil) .nil
  ·rintro⟨pre,rest,hx,hp,Dh⟩;dsimp only;rcases lc hx with⟨rfl,hl⟩|⟨x,rest,rfl,hl⟩
   ·exact go []<|aH (by simp at hl|-;omega)<|go []<|af rfl (Sub.int (by exact hp.symm))
   ·refine go []<|aM zQ<|ix zO (aK aJ hx rfl)<|oP (ah call53 rfl (adG x (hf x (by rw[hx];simp))))<|br (fun h2=>?_) (fun h2=>?_)
    ·exact af rfl (Sub.int (by exact ud hp (abc h2) (aG h2)))
    ·refine ix zO (aK aJ hx rfl)<|br (fun h3=>?_) (fun h3=>?_)
     ·exact af rfl (Sub.int (by exact ud hp (abd h2 h3) zD))
     ·refine ix zO (aK aJ hx rfl)<|br (fun h4=>?_) (fun h4=>?_)
      ·exact af rfl (Sub.int (by exact ud hp (abe h2 h3 h4) zD))
      ·refine oP (pC underlying31 sizeOf39 rfl (l:=0) (h:=pre.length) (r:=pre.map aJ) (.inl ⟨rfl,rfl⟩) (.inr ⟨_,_,rfl,rfl⟩) zO (by simp[hx]) (by rw[hx];simp))<|ix zO (aK aJ hx rfl)<|oP (ah call59 rfl (TD pre x.key zO))<|ord<|br (fun h5=>?_) (fun h5=>?_)
       ·exact af rfl (Sub.int (by exact ud hp (abf h2 h3 h4 h5) zD))
       ·refine PS (fun hg=>cT zO zO)<|j9 (fun hg=>And.intro (by simp[jw]at hg;omega) (Bg aJ hx (by simp[jw]at hg;omega) rfl))<|j9 (fun hg=>And.intro zO (aK aJ hx rfl))<|gP (fun hg=>ah call60 rfl (adQ (u7 pre) x))<|ord<|br (fun h6=>?_) (fun h6=>?_)
        ·exact af rfl (Sub.int (by exact ud hp (abg h2 h3 h4 h5 h6) zD))
        ·exact sd (ao zO)<|nx ⟨pre++[x],rest,by simp[hx],abi hp (Qm h2 h3 h4 h5 h6),Dh⟩ zS (Le.mk rfl (.s rfl rfl (.cons rfl (Sub.int zS) rfl .nil)) .nil)
def C2(k:Int):Int:=if(eU k).isSome=true then 0 else 7
def anV(v:mz):m_ (dN v.w v.c v.h (BN v.num) v.code)=true:=by obtain⟨w,c,h,nu,code⟩:=v;cases nu<;>rfl
def RF{m:List (Int×mz)}{k:Int}(hA:Bm m)(h:(!j4 m k)=true):(0:Int)=gS k/\(7:Int)=C2 k:=by
 obtain⟨_,h2⟩:=NI hA.1 hA.2 k;rw[h2]at h;unfold gS C2;cases e:eU k with
 |none=>exact⟨rfl,rfl⟩
 |some r=>rw[e]at h;cases h
def RE{m:List (Int×mz)}{k:Int}(hA:Bm m)(h:(!j4 m k)=false):(ei xK m k).c=gS k/\(0:Int)=C2 k:=by
 obtain⟨h1,h2⟩:=NI hA.1 hA.2 k;rw[h2]at h;obtain⟨r,hr⟩:=PQ h;obtain⟨r',mP,_,hc,_⟩:=NJ h1 hr;unfold gS C2;rw[mP]at hr;cases hr;rw[mP];exact⟨hc,rfl⟩
def RH(k:Int):Fc prog 159 [.i k] (.a_ [.i (gS k),.i (C2 k)]):=by
 refine gq func159 ntmps159 results159 ?_;refine U.seq<|rg<|.ag rfl rfl<|.ag rfl rfl<|.nil<|U.seq (U.vK ?_);refine Tx.n rfl trivial (Pq call87 rfl Wz _) (fun nb cF=>?_);dsimp only;refine Tx.q rfl trivial (aX rfl _)<|Tx.q rfl trivial (ZL e6 (vD:=fE) (m:=nb) (k:=k) (d:=xK) underlying123 zeroValue121 Wy rfl rfl rfl rfl)<|Tx.q rfl trivial (aX rfl _)<|Tx.q rfl trivial (eP rfl rfl _)<|Tx.q rfl trivial (eP rfl rfl _)<|Tx.q rfl trivial (jC 0 zeroValue121 rfl)<|Tx.q rfl trivial (kP sizeOf121 rfl rfl rfl (anV _) rfl rfl)<|Tx.q rfl trivial (zu rfl _)<|Tx.nil<|U.seq<|U.seq<|rg<|.mv rfl rfl<|.P rfl (PA rfl)<|.nil<|U.cond rfl (fun h1=>?_) (fun h1=>?_)
 ·refine U.seq<|rg<|.ag rfl rfl<|.ag rfl rfl<|.nil<|U.ret (?_);exact rq rfl rfl (Sub.int (by exact(RF cF h1).1)) (Sub.int (by exact(RF cF h1).2))
 ·refine U.skip<|U.seq<|rg<|.P rfl (iN (n:=0) 3 1 underlying121 sizeOf3 rfl rfl)<|.R rfl (iY isAgg3 rfl rfl rfl)<|.ag rfl rfl<|.ag rfl rfl<|.nil<|U.ret (?_);exact rq rfl rfl (Sub.int (by exact(RE cF h1).1)) (Sub.int (by exact(RE cF h1).2))
def xp:List Int->Int
 |[]=>0
 |x::r=>if x≠0 then x else xp r
def oo(a b:Int):Int:=if a<b then -1 else if b<a then 1 else 0
def ad1(a b:aa):o0 a b=if decide (a≠b)=true then(if aa.lt a b=true then -1 else 1)else 0:=by
 unfold o0;by_cases h:a=b
 ·subst h;rw[NZ];simp
 ·have e:decide (a≠b)=true:=by simpa using h
  rw[e];by_cases h1:aa.lt a b=true
  ·simp[h1]
  ·have h2:aa.lt b a=true:=by
    rw[r9]at*;exact Decidable.byContradiction fun k=>h (tB (xo.1 k) (xo.1 h1))
   simp[h1,h2]
def adT(a b:Fact):xp [oo a.day b.day,oo (gS a.kind) (gS b.kind),o0 a.key b.key]=lJ a b:=by
 simp only[xp,ad1];unfold lJ oo;by_cases h1:a.day=b.day
 ·by_cases h2:gS a.kind=gS b.kind
  ·by_cases h3:a.key=b.key
   ·simp[h1,h2,h3]
   ·by_cases h4:aa.lt a.key b.key=true<;>simp[h1,h2,h3,h4]
  ·by_cases h4:gS a.kind<gS b.kind
   ·simp[h1,h2,h4]
   ·have h5:gS b.kind<gS a.kind:=by omega
    simp[h1,h2,h4,h5]
 ·by_cases h4:a.day<b.day
  ·simp[h1,h4]
  ·have h5:b.day<a.day:=by omega
   simp[h1,h4,h5]
structure aog(l:List Int)where
 pre:List Int
 rest:List Int
 hx:l=pre++rest
 hp:xp rest=xp l
def aof(l:List Int):Fc prog 160 [.snap 1 true (l.map fun n=>[.i n])] (.i (xp l)):=by
 refine ay func160 ntmps160 results160 ?_;refine U.eh 0 rfl (fun hb=>?_);simp only[bB,aD]at hb;refine U.seq<|rg<|.ag rfl rfl<|.nil<|U.seq<|rg<|.ag rfl rfl<|.nil<|U.seq<|U.seq<|rg<|.mv rfl rfl<|.P rfl (cv underlying25 rfl)<|.mv rfl rfl<|.nil<|U.block<|U.loop (ι:=aog l) (fun sx=>[(3,.i 0),(6,.snap 1 true (l.map fun n=>[.i n])),(7,.i l.length),(8,.i sx.pre.length)]) (fun sx=>[]) (fun sx=>sx.rest.length) ⟨[],l,rfl,rfl⟩ ?_ ?_
 ·exact Le.mk rfl (.n 2 rfl rfl (.cons rfl (Sub.int zS) rfl (.s rfl rfl .nil))) .nil
 ·rintro⟨pre,rest,hx,hp⟩;dsimp only;rcases lc hx with⟨rfl,hl⟩|⟨x,rest,rfl,hl⟩
  ·refine U.seq<|rg<|.P rfl (bp rfl rfl)<|.nil<|U.seq<|U.c6 rfl (by simp at hl|-;omega)<|U.exit (dz (du ?_));refine U.seq<|rg<|.mv rfl rfl<|.ag rfl rfl<|.nil<|U.ret (?_);exact dt rfl (Sub.int (by rw[<-hp];rfl))
  ·refine U.seq<|rg<|.P rfl (bp rfl rfl)<|.nil<|U.seq<|U.ew rfl zQ<|U.skip<|U.seq<|U.block<|U.seq<|rg<|.P rfl (eC underlying25 sizeOf3 rfl rfl zO (aK (fun n=>[D.i n]) hx rfl))<|.P rfl (bE isAgg3 rfl)<|.ag rfl rfl<|.nil<|U.seq<|rg<|.mv rfl rfl<|.mv rfl rfl<|.P rfl (zy rfl rfl)<|.nil<|U.cond rfl (fun h1=>?_) (fun h1=>?_)
   ·have bJ:=h1;try simp only[bs]at bJ
    refine U.seq<|rg<|.mv rfl rfl<|.ag rfl rfl<|.nil<|U.ret (jY (sE (jY (?_))));exact dt rfl (Sub.int (by rw[<-hp];simp[xp];omega))
   ·refine U.skip<|U.nil (bR ?_);refine rg<|.P rfl (bx rfl rfl (ao zO))<|.mv rfl rfl<|.nil<|U.nil (cz ?_);exact⟨⟨pre++[x],rest,by simp[hx],by rw[<-hp];simp at*;simp[xp, *]⟩,by simp,Le.mk rfl (.n 3 rfl rfl (.cons rfl (Sub.int zS) rfl .nil)) .nil⟩
def We(d:Int):Fc prog 207 [.i d] (.b false):=by
 refine ay func207 ntmps207 results207 ?_;exact go []<|af rfl (Sub.bool zS)
def adR(a b:Int):Fc prog 161 [.i a,.i b] (.i (oo a b)):=by
 refine ay func161 ntmps161 results161 ?_;refine go []<|oP (ah call207 rfl (We _))<|oP (ah call207 rfl (We _))<|aH rfl<|aH rfl<|br (fun h1=>?_) (fun h1=>?_)
 ·exact af rfl (Sub.int (by grind[oo]))
 ·refine br (fun h2=>?_) (fun h2=>?_)
  ·exact af rfl (Sub.int (by grind[oo]))
  ·exact af rfl (Sub.int (by grind[oo]))
def Wf(d:Int):Fc prog 208 [.i d] (.b false):=by
 refine ay func208 ntmps208 results208 ?_;exact go []<|af rfl (Sub.bool zS)
def adW(a b:Int):Fc prog 162 [.i a,.i b] (.i (oo a b)):=by
 refine ay func162 ntmps162 results162 ?_;refine go []<|oP (ah call208 rfl (Wf _))<|oP (ah call208 rfl (Wf _))<|aH rfl<|aH rfl<|br (fun h1=>?_) (fun h1=>?_)
 ·exact af rfl (Sub.int (by grind[oo]))
 ·refine br (fun h2=>?_) (fun h2=>?_)
  ·exact af rfl (Sub.int (by grind[oo]))
  ·exact af rfl (Sub.int (by grind[oo]))
def adU(a b:Fact):Fc prog 108 [.agg (aJ a),.agg (aJ b)] (.i (lJ a b)):=by
 refine ay func108 ntmps108 results108 ?_;exact go []<|oP (ah call159 rfl (RH _))<|oP (ah call159 rfl (RH _))<|oP (ah call161 rfl (adR _ _))<|oP (ah call162 rfl (adW _ _))<|oP (ah call132 rfl (RM _ _))<|oP (bK (n:=3) (rows:=[oo a.day b.day,oo (gS a.kind) (gS b.kind),o0 a.key b.key].map fun n=>[D.i n]) underlying25 sizeOf3 rfl rfl rfl zeroValue3 rfl rfl rfl rfl rfl rfl rfl)<|oP (ah call160 rfl (aof [oo a.day b.day,oo (gS a.kind) (gS b.kind),o0 a.key b.key]))<|ord<|af rfl (Sub.int (by exact adT a b))
def akC(y:Fact)(k:aa):Fc prog 68 [.agg (aJ y),.bj [.str k]] (.b (decide (y.key=k))):=by
 refine ay func68 ntmps68 results68 ?_;exact go []<|af rfl (Sub.refl _)
def ahq(l:List Fact)(k:aa):Fc prog 27 [aQ l,.str k] (.a_ [.i (max (fw (fun y:Fact=>decide (y.key=k)) l) 0),.b (l.any (fun y:Fact=>decide (y.key=k)))]):=by
 refine gq func27 ntmps27 results27 ?_;refine go [1] ?_;refine U.bc (Le.fx 3 0 rfl rfl rfl rfl) ?_;exact go []<|oP (ah call67 rfl (VW l _ [.bj [.str k]] rfl (fun y:Fact=>decide (y.key=k)) call68 (fun y _=>akC y k)))<|cw rfl rfl (Sub.refl _) (Sub.bool (by exact s0 _ l))
end Go.T
namespace Go.T
open Go
def RD{u:UM}(hn:(aE u).Nodup)(x:aa):(jZ u x).Nodup:=((lz _).nodup_iff).2 (hn.filter _)
def aiv{u:UM}(hn:(aE u).Nodup):(gU u).flatten.Nodup:=by
 have hl:(fk ((aE u).filter (mW u))).Nodup:=((lz _).nodup_iff).2 (hn.filter _);unfold gU List.Nodup;rw[List.pairwise_flatten];constructor
 ·intro l hl;obtain⟨x,_,rfl⟩:=dh.1 hl;exact RD hn x
 ·rw[rB];refine List.Pairwise.imp_of_mem ?_ hl;intro x y hx hy aC z hz w hw e;subst e;apply aC;obtain⟨kx,lx⟩:=tJ.1 hx;obtain⟨ky,ly⟩:=tJ.1 hy;unfold jZ at hz hw;rw[q7,eX,cd]at hz hw;unfold mW at lx ly;simp only[de,cd]at lx ly;exact tB (lx y ky (hw.2.symm.trans hz.2)) (ly x kx (hz.2.symm.trans hw.2))
def Uo{u:UM}(hn:(aE u).Nodup):∀g∈gU u,g≠[]/\g.Pairwise fun a b=>aa.lt a b=true:=by
 intro g hg;unfold gU at hg;obtain⟨x,hx,rfl⟩:=dh.1 hg;constructor
 ·have:=wx (tJ.1 hx).1;unfold jZ;exact pw (q7.2 this)
 ·have h1:(jZ u x).Pairwise fun a b=>a<=b:=uc _;have h2:(jZ u x).Pairwise fun a b=>a≠b:=RD hn x;exact(h1.and h2).imp fun h=>NO h.1 h.2
def aiw{u:UM}(x:aa):x∈(gU u).flatten↔x∈aE u:=by
 rw[lA];constructor
 ·rintro⟨g,hg,hx⟩;obtain⟨y,_,h⟩:=aix hg;exact((h x).1 hx).1
 ·intro hx;obtain⟨g,hg,h⟩:=Me hx;exact⟨g,hg,(h x).2 ⟨hx,rfl⟩⟩
structure abO(Ls:List (List aa)):Prop where
 flat:(gJ Ls).flatten.Nodup
 ne:∀g∈gJ Ls,g≠[]
 strict:∀g∈gJ Ls,g.Pairwise fun a b=>aa.lt a b=true
 keys:∀x,x∈(gJ Ls).flatten↔named Ls x
 DV:∀r∈Ls,r≠[]->∃g∈gJ Ls,∀x∈r,x∈g
def yo(Ls:List (List aa)):abO Ls:=by
 obtain⟨u,hu⟩:=Jq Ls;have e:=Dd hu;refine⟨by rw[<-e];exact aiv hu.nd,fun g hg=>(Uo hu.nd g (e▸hg)).1,fun g hg=>(Uo hu.nd g (e▸hg)).2,fun x=>by rw[<-e,aiw];exact hu.keys x,fun r hr aC=>?_⟩;rw[<-e];obtain⟨a,l,rfl⟩:=List.exists_cons_of_ne_nil aC;have ha:a∈aE u:=(hu.keys a).2 ⟨_,hr,by simp⟩;obtain⟨g,hg,h⟩:=Me ha;refine⟨g,hg,fun x hx=>(h x).2 ?_⟩;have hk:x∈aE u:=(hu.keys x).2 ⟨_,hr,hx⟩;exact⟨hk,(hu.conn x a hk ha).2 (.one hr hx zS)⟩
theorem Wc{t:List bL}:∀(l pre:List aS),qU t pre l=0->∀x∈l,isName x.id=true
 |[],_,_,x,hx=>by cases hx
 |y::r,pre,h,x,hx=>by
  rw[qU]at h;by_cases k:decide (oD pre y t≠0)=true
  ·rw[aV k]at h;exact absurd h (aG k)
  ·rw[aF k]at h;rcases cr.1 hx with rfl|hx
   ·have h0:oD pre x t=0:=by simpa using k
    unfold oD at h0;by_cases k2:decide (jL x≠0)=true
    ·rw[aV k2]at h0;exact absurd h0 (aG k2)
    ·have h1:jL x=0:=by simpa using k2
     unfold jL at h1;by_cases k3:(!isName x.id)=true
     ·rw[aV k3]at h1;cases h1
     ·simpa using k3
   ·exact Wc r _ h x hx
def aqN{s:Setup}(h:lH s.insts s.o7=0):∀x∈s.insts,isName x.id=true:=by
 unfold lH at h;by_cases k1:decide (mB s.o7≠0)=true
 ·rw[aV k1]at h;cases h
 rw[aF k1]at h;by_cases k2:decide (64<(s.insts.length:Int))=true
 ·rw[aV k2]at h;cases h
 rw[aF k2]at h;exact Wc _ _ h
def aub{s:Setup}{l:List Fact}(h:sH s l=false):lH s.insts s.o7=0/\∀f∈l,gy f=0:=by
 simp only[sH,cq,Fh,cd]at h;exact⟨h.1,fun f hf=>by simpa using List.any_eq_false.1 h.2 f hf⟩
def Mg(s:Setup)(l:List Fact):(aW s l).flatten.Nodup:=by
 show(List.flatten ([]::gJ (fa s l))).Nodup;rw[fW,q_];exact(yo _).flat
def am'{s:Setup}{l:List Fact}{x:aS}(hx:x∈s.insts):named (fa s l) x.id:=⟨[x.id],by unfold fa;simp only[cM,dh];exact .inl (.inl ⟨x,hx,rfl⟩),by simp⟩
def afE{s:Setup}{l:List Fact}{f:Fact}(hf:f∈l):b_ f∈fa s l:=by
 unfold fa;simp only[cM,dh];exact .inl (.inr ⟨f,hf,rfl⟩)
def Qp{gs:List (List aa)}(hn:gs.flatten.Nodup){i:Nat}{g:List aa}(hi:gs[i]?=some g){x:aa}(hx:x∈g):eW gs x=i:=by
 obtain⟨bA,e⟩:=cI.1 hi;have hp:∀h:List aa,(h.any fun m=>decide (x=m))=true↔x∈h:=fun h=>by
  rw[j_];constructor
  ·rintro⟨m,hm,k⟩;rw[aG k];exact hm
  ·intro hm;exact⟨x,hm,iH rfl⟩
 have aiQ:(gs.any fun g:List aa=>g.any fun m=>decide (x=m))=true:=j_.2 ⟨g,dj hi,(hp g).2 hx⟩;unfold eW fw;rw[aV aiQ]
 congr 1
 rw[List.findIdx_eq bA];refine⟨by rw[e];exact(hp g).2 hx,fun j hj=>?_⟩;cases k:(gs[j].any fun m=>decide (x=m))with
 |false=>rfl
 |true=>
  exfalso;have k9:=(hp _).1 k;have HG:=(List.pairwise_flatten.1 hn).2;exact qC.1 HG j i zO bA hj x k9 x (by rw[e];exact hx) rfl
def anL{s:Setup}{l:List Fact}{f:Fact}(hf:f∈l):∃k:Nat,k<(aW s l).length/\gh (aW s l) (b_ f)=((k:Int),0):=by
 by_cases e:b_ f=[]
 ·refine⟨0,by simp[aW],?_⟩;rw[e];exact OR zO (fun x hx=>by cases hx) (fun _=>rfl)
 ·obtain⟨g,hg,h⟩:=(yo (fa s l)).DV _ (afE hf) e;obtain⟨i,hi⟩:=mw hg;have kG:(aW s l)[i+1]?=some g:=hi;refine⟨i+1,(cI.1 kG).1,?_⟩;exact OR zO (fun x hx=>Qp (Mg s l) kG (h x hx)) (fun k=>absurd k e)
def gY(gs:List (List aa))(f:Fact):Int:=(gh gs (b_ f)).1
def ji(gs:List (List aa))(v:List Fact)(i:Int):List Fact:=v.filter fun f=>decide (gY gs f=i)
def IJ{s:Setup}{l:List Fact}:∀f∈l,0<=gY (aW s l) f/\gY (aW s l) f<((aW s l).length:Int)/\(gh (aW s l) (b_ f)).2=0:=fun f hf=>by
 obtain⟨k,hk,e⟩:=anL (s:=s) hf;unfold gY;rw[e];exact⟨by simp,by omega,rfl⟩
theorem Ud{κ β:Type}[DecidableEq κ](d:β)(k:κ)(v:β)(q:κ):∀m:List (κ×β),ei d (eD m k v) q=if q=k then v else ei d m q
 |[]=>by by_cases h:q=k<;>simp[eD,ei,h]
 |(a,u)::r=>by
  have ih:=Ud d k v q r;by_cases h:k=a
  ·subst h;by_cases h2:q=k<;>simp[eD,ei,h2]
  ·simp only[eD,aF h,ei,ih];by_cases h2:q=a
   ·subst h2;have:q≠k:=fun e=>h e.symm;simp[this]
   ·simp[h2]
def xC(l:List aa):List (aa×Bool):=l.foldl (fun m x=>eD m x true) []
def P0(l:List aa)(x:aa):xC (l++[x])=eD (xC l) x true:=by unfold xC;rw[rH];rfl
def PZ(l:List aa)(x:aa):ei false (xC l) x=l.any (fun y=>decide (y=x)):=by
 induction l using su with
 |h0=>rfl
 |h1 i a ih=>
  rw[P0,Ud,ih,pH];by_cases h:x=a
  ·subst h;simp
  ·rw[aF h];have:decide (a=x)=false:=by simpa using fun e=>h e.symm
   simp[this]
def PW(l:List Fact)(x:aa):ei false (xC (l.map fun y=>y.key)) x=l.any (fun y=>decide (y.key=x)):=by
 rw[PZ,List.any_map];rfl
def abb(w:World)(O:Nat->Prop)(ρ:aA):V w O ρ (D.b false) (.bool false):=by simp[V,D.b]
def anP(f:Nat->Bool){β:Type}(vD:β->D)(hv:∀b,(vD b).okB f=true)(m:List (aa×β)):Ob.okB f (.mp (bP D.str vD m))=true:=by
 have h:∀l:List (aa×β),D.okB.fM f (l.map fun p=>D.str p.1)=true/\D.okB.fM f (l.map fun p=>vD p.2)=true:=by
  intro l;induction l with
  |nil=>exact⟨rfl,rfl⟩
  |cons a l ih=>
   refine⟨?_,?_⟩
   ·simp only[cP,D.okB.fM,D.okB,ih.1];rfl
   ·simp only[cP,D.okB.fM,hv,ih.2];rfl
 have e1:(bP D.str vD m).map (·.1)=m.map fun p=>D.str p.1:=by simp[bP]
 have e2:(bP D.str vD m).map (·.2)=m.map fun p=>vD p.2:=by simp[bP]
 simp only[Ob.okB,e1,e2,(h m).1,(h m).2];rfl
def BR(f:Nat->Bool)(m:List (aa×Bool)):Ob.okB f (.mp (bP D.str D.b m))=true:=anP f D.b (fun _=>rfl) m
open Go.Proofs Go.Proofs.Tryz
structure atE(l:List Fact)(hf:∀f∈l,lM f)where
 pre:List Fact
 rest:List Fact
 hx:l=pre++rest
 hp:lI l=rA pre rest
 Dh:l.length<=1000
def Ct(l:List Fact)(hf:∀f∈l,lM f):Fc prog 65 [aQ l] (.i (lI l)):=by
 refine ay func65 ntmps65 results65 ?_;refine U.eh 0 rfl (fun hb=>?_);simp only[bB,aD]at hb;refine go []<|br (fun h1=>?_) (fun h1=>?_)
 ·exact af rfl (Sub.int (by(unfold lI;exact iT (by simpa using h1))))
 ·refine oW (ni 0 D.str (D.b) rfl)<|U.loop (ι:=atE l hf) (fun sx=>[(0,aQ l),(3,.cL 0),(11,aQ l),(12,.i l.length),(13,.i sx.pre.length)]) (fun sx=>[(0,.mp (bP D.str D.b (xC (sx.pre.map fun y=>y.key))))]) (fun sx=>sx.rest.length) ⟨[],_,rfl,by unfold lI;rw[aF (by simpa using h1)],by simp at h1;omega⟩ ?_ ?_
  ·exact Le.mk rfl (.n 3 rfl rfl (.cons rfl (Sub.int zS) rfl (.s rfl rfl .nil))) (.eq rfl (by rfl) (BR _ _) .nil)
  ·rintro⟨pre,rest,hx,hp,Dh⟩;dsimp only;rcases lc hx with⟨rfl,hl⟩|⟨x,rest,rfl,hl⟩
   ·exact go []<|aH (by simp at hl|-;omega)<|go []<|af rfl (Sub.int (by exact hp.symm))
   ·refine go []<|aM zQ<|ix zO (aK aJ hx rfl)<|oP (ah call44 rfl (Ry x (hf x (by rw[hx];simp))))<|br (fun h2=>?_) (fun h2=>?_)
    ·exact af rfl (Sub.int (by exact ud hp (abc h2) (aG h2)))
    ·refine br (fun h3=>?_) (fun h3=>?_)
     ·exact af rfl (Sub.int (by exact ud hp (abd h2 h3) zD))
     ·refine br (fun h4=>?_) (fun h4=>?_)
      ·exact af rfl (Sub.int (by exact ud hp (abe h2 h3 h4) zD))
      ·refine oR (EW km (vD:=D.b) (k:=x.key) (d:=false) underlying137 zeroValue4 abb rfl rfl rfl rfl)<|br (fun h5=>?_) (fun h5=>?_)
       ·exact af rfl (Sub.int (by exact ud hp (abf h2 h3 h4 (by rw[<-PW];exact h5)) zD))
       ·refine PS (fun hg=>cT zO zO)<|j9 (fun hg=>And.intro (by simp[jw]at hg;omega) (Bg aJ hx (by simp[jw]at hg;omega) rfl))<|gP (fun hg=>ah call108 rfl (adU (u7 pre) x))<|ord<|br (fun h6=>?_) (fun h6=>?_)
        ·exact af rfl (Sub.int (by exact ud hp (abg h2 h3 h4 (by rw[<-PW];exact h5) h6) zD))
        ·exact oW (eV km (vD:=D.b) (k:=x.key) (v:=true) underlying137 rfl rfl rfl rfl rfl rfl)<|sd (ao zO)<|nx ⟨pre++[x],rest,by simp[hx],abi hp (Qm h2 h3 h4 (by rw[<-PW];exact h5) h6),Dh⟩ zS (Le.mk rfl (.n 4 rfl rfl (.cons rfl (Sub.int zS) rfl .nil)) (.eq rfl (by(rw[Bh];exact aT (fun z=>Ob.mp (bP D.str D.b z)) (P0 _ _).symm)) (BR _ _) .nil))
def aa2{gs:List (List aa)}(h:(decide ((gs.length:Int)=0)||decide (0<((gs.headD []).length:Int)))=false):nr gs=pr [] (gs.drop 1):=by unfold nr;rw[aF (by rw[h];simp)]
def aa6{gs:List (List aa)}(h:(decide ((gs.length:Int)=0)||decide (0<((gs.headD []).length:Int)))=true):false=nr gs:=by unfold nr;rw[aV h]
def aa3{e:Bool}{seen:List aa}{x:List aa}{r:List (List aa)}(hp:e=pr seen (x::r))(h:decide ((x.length:Int)=0)=true):false=e:=by rw[hp,pr,aV h]
def aa4{e:Bool}{seen:List aa}{x:List aa}{r:List (List aa)}(hp:e=pr seen (x::r))(h:decide ((x.length:Int)=0)=false)(hq:lg seen [] x=false):false=e:=by rw[hp,pr,aF (by rw[h];simp),hq];rfl
def aa5{e:Bool}{seen:List aa}{x:List aa}{r:List (List aa)}(hp:e=pr seen (x::r))(h:decide ((x.length:Int)=0)=false)(hq:lg seen [] x=true):e=pr (seen++x) r:=by rw[hp,pr,aF (by rw[h];simp),hq];rfl
def UY{gs:List (List aa)}(h:0<gs.length):(gs.map (fun v:List aa=>[D.snap 1 false (cm v)]))[(0:Int).toNat]?=some [D.snap 1 false (cm (gs.headD []))]:=by
 cases gs with
 |nil=>simp at h
 |cons a l=>rfl
def af1{gs:List (List aa)}(n:Nat)(h:n=gs.length):((gs.map (fun v:List aa=>[D.snap 1 false (cm v)])).drop 1).take (n-1)=(gs.drop 1).map (fun v:List aa=>[D.snap 1 false (cm v)]):=by
 subst h;rw[<-List.map_drop];exact gZ zS
structure atw(gs:List (List aa))where
 pre:List (List aa)
 rest:List (List aa)
 hx:gs.drop 1=pre++rest
 hp:nr gs=pr pre.flatten rest
structure atx(gs:List (List aa))(pre:List (List aa))(x:List aa)where
 au:List aa
 az:List aa
 aN:x=au++az
 hq:lg pre.flatten [] x=lg pre.flatten au az
def atv(gs:List (List aa)):Fc prog 55 [dm gs] (.b (nr gs)):=by
 refine ay func55 ntmps55 results55 ?_;refine U.eh 0 rfl (fun hb=>?_);simp only[bB,aD]at hb;refine U.seq<|rg<|.ag rfl rfl<|.nil<|U.seq (U.seq (U.e_ [.p,.p,.p,.p,.p,.p,.p,.p,.p,.p] ?_));refine .mv rfl rfl<|.P rfl (cv underlying43 rfl)<|.P rfl (kO rfl rfl)<|.mv rfl rfl<|.gF rfl (.inl rfl) rfl rfl rfl (fun hg=>pk (fun _=>aX rfl _))<|.gF rfl (.inl rfl) rfl rfl rfl (fun hg=>pk (fun _=>eC underlying43 sizeOf48 (bn rfl (nt hg)) rfl zD (UY (Av.2 (by simpa using hg))) _))<|.gF rfl (.inl rfl) rfl rfl rfl (fun hg=>pk (fun _=>bE isAgg48 (bn rfl (nt hg)) _))<|.gF rfl (.inl rfl) rfl rfl rfl (fun hg=>pk (fun _=>cv underlying48 (bn rfl (nt hg)) _))<|.gF rfl (.inl rfl) rfl rfl rfl (fun hg=>pk (fun _=>gE (bn rfl (nt hg)) rfl _))<|.P rfl (oT rfl rfl)<|.nil<|U.cond rfl (fun h1=>?_) (fun h1=>?_)
 ·refine U.seq<|rg<|.ag rfl rfl<|.nil<|U.ret (?_);exact dt rfl (Sub.bool (by exact aa6 (by simpa[cm]using h1)))
 ·have bJ:=h1;try simp only[bs]at bJ
  refine U.skip<|U.seq<|rg<|.W rfl (ni 0 D.str (D.b) rfl)<|.ag rfl rfl<|.nil<|U.seq<|U.seq<|rg<|.mv rfl rfl<|.P rfl (pC underlying43 sizeOf48 rfl (l:=1) (h:=gs.length) (r:=(gs.drop 1).map (fun v:List aa=>[D.snap 1 false (cm v)])) (.inr ⟨_,_,rfl,rfl⟩) (.inl ⟨rfl,(bB _).symm⟩) (by simp at h1;omega) zS (af1 _ rfl))<|.P rfl (cv underlying43 rfl)<|.mv rfl rfl<|.nil<|U.block<|U.loop (ι:=atw gs) (fun sx=>[(3,.cL 0),(20,dm (gs.drop 1)),(21,.i (gs.drop 1).length),(22,.i sx.pre.length)]) (fun sx=>[(0,.mp (bP D.str D.b (xC sx.pre.flatten)))]) (fun sx=>sx.rest.length) ⟨[],_,rfl,aa2 (by simpa[cm]using h1)⟩ ?_ ?_
  ·exact Le.mk rfl (.n 2 rfl rfl (.cons rfl (Sub.int zS) rfl (.s rfl rfl .nil))) (.eq rfl (by rfl) (BR _ _) .nil)
  ·rintro⟨pre,rest,hx,hp⟩;dsimp only;have hl:=aT List.length hx;simp only[bl]at hl;have hld:(gs.drop 1).length=gs.length-1:=z1;rcases rest with _|⟨x,rest⟩
   ·refine U.seq<|rg<|.P rfl (bp rfl rfl)<|.nil<|U.seq<|U.c6 rfl (by simp at hl|-;omega)<|U.exit (dz (du ?_));refine U.seq<|rg<|.ag rfl rfl<|.nil<|U.ret (?_);exact dt rfl (Sub.bool (by exact hp.symm))
   ·simp only[bD]at hl;refine U.seq<|rg<|.P rfl (bp rfl rfl)<|.nil<|U.seq<|U.ew rfl zQ<|U.skip<|U.seq<|U.block<|U.seq<|rg<|.P rfl (eC underlying43 sizeOf48 rfl rfl zO (aK (fun v:List aa=>[D.snap 1 false (cm v)]) hx rfl))<|.P rfl (bE isAgg48 rfl)<|.ag rfl rfl<|.nil<|U.seq<|U.seq<|rg<|.mv rfl rfl<|.P rfl (cv underlying48 rfl)<|.P rfl (kO rfl rfl)<|.nil<|U.cond rfl (fun h2=>?_) (fun h2=>?_)
    ·refine U.seq<|rg<|.ag rfl rfl<|.nil<|U.ret (jY (sE (jY (?_))));exact dt rfl (Sub.bool (by exact aa3 hp (by simpa[cm]using h2)))
    ·have mS:decide ((x.length:Int)=0)=false:=by simpa[cm]using h2
     refine U.eh 5 rfl (fun fH=>?_);simp only[cm,bB,aD]at fH;refine U.skip<|U.seq<|rg<|.mv rfl rfl<|.P rfl (cv underlying48 rfl)<|.mv rfl rfl<|.nil<|U.block<|U.loop (ι:=atx gs pre x) (fun sx=>[(3,.cL 0),(5,bg x),(20,dm (gs.drop 1)),(21,.i (gs.drop 1).length),(22,.i pre.length),(29,bg x),(30,.i x.length),(31,.i sx.au.length)]) (fun sx=>[(0,.mp (bP D.str D.b (xC (pre.flatten++sx.au))))]) (fun sx=>sx.az.length) ⟨[],x,rfl,rfl⟩ ?_ ?_
     ·exact Le.mk rfl (.n 6 rfl rfl (.cons rfl (Sub.int zS) rfl (.s rfl rfl .nil))) (.eq rfl zS (BR _ _) .nil)
     ·rintro⟨au,az,aN,hq⟩;dsimp only;rcases lc aN with⟨rfl,bM⟩|⟨x2,az,rfl,bM⟩
      ·have Nh:lg pre.flatten [] x=true:=hq;refine U.seq<|rg<|.P rfl (bp rfl rfl)<|.nil<|U.seq<|U.c6 rfl (by simp at bM|-;omega)<|U.exit (dz (du ?_));refine U.nil (bR ?_);refine rg<|.P rfl (bx rfl rfl (ao zO))<|.mv rfl rfl<|.nil<|U.nil (cz ?_);exact⟨⟨pre++[x],rest,by simp[hx],by rw[qX];simpa using aa5 hp mS Nh⟩,by simp,Le.mk rfl (.n 3 rfl rfl (.cons rfl (Sub.int zS) rfl .nil)) (.eq rfl (by(have e9:x=au:=(by simpa using aN);subst e9;simp)) (BR _ _) .nil)⟩
      ·refine U.seq<|rg<|.P rfl (bp rfl rfl)<|.nil<|U.seq<|U.ew rfl zQ<|U.skip<|U.seq<|U.block<|U.seq<|rg<|.mv rfl rfl<|.P rfl (eC underlying48 sizeOf9 rfl rfl zO (aK (fun s=>[D.str s]) aN rfl))<|.P rfl (bE isAgg9 rfl)<|.ag rfl rfl<|.ag rfl rfl<|.nil<|U.seq (U.seq (U.e_ [.p,.p,.p,.p,.p,.p,.p,.p,.p,.p,.p,.p,.p,.p,.p,.p,.p,.p,.p,.r,.p] ?_))
       refine .mv rfl rfl<|.P rfl (ah call86 rfl (BF _))<|.P rfl (PA rfl)<|.mv rfl rfl<|.gF rfl (.inl rfl) rfl rfl rfl (fun hg=>pk (fun _=>aX rfl _))<|.gF rfl (.inl rfl) rfl rfl rfl (fun hg=>pk (fun _=>gE (bn rfl (nt hg)) rfl _))<|.gF rfl (.inl rfl) rfl rfl rfl (fun hg=>pk (fun _=>aX (bn rfl (nt hg)) _))<|.nT rfl (.inl rfl) rfl rfl rfl (fun hc hg=>pk (fun _=>aX rfl _))<|.nT rfl (.inl rfl) rfl rfl rfl (fun hc hg=>pk (fun _=>aX rfl _))<|.nT rfl (.inl rfl) rfl rfl rfl (fun hc hg=>pk (fun _=>dx (bn rfl (bT hc hg)) rfl (ao zO) _))<|.nT rfl (.inl rfl) rfl rfl rfl (fun hc hg=>pk (fun _=>eC underlying48 sizeOf9 (bn rfl (bT hc hg)) (bn rfl (bT hc hg)) (by have yz:=hg;simp at yz;omega) (Bg (fun s=>[D.str s]) aN (by have yz:=hg;simp at yz;omega) rfl) _))<|.nT rfl (.inl rfl) rfl rfl rfl (fun hc hg=>pk (fun _=>bE isAgg9 (bn rfl (bT hc hg)) _))<|.nT rfl (.inl rfl) rfl rfl rfl (fun hc hg=>pk (fun _=>aX rfl _))<|.nT rfl (.inl rfl) rfl rfl rfl (fun hc hg=>pk (fun _=>ZH (bn rfl (bT hc hg)) (bn rfl (bT hc hg)) _))<|.gF rfl (.inl rfl) rfl rfl rfl (fun hg=>pk (fun _=>iy (bn rfl (nt hg)) (OZ rfl (nt hg)) _))<|.P rfl (oT rfl rfl)<|.mv rfl rfl<|.gF rfl (.inl rfl) rfl rfl rfl (fun hg=>pk (fun _=>aX rfl _))<|.gF rfl (.inl rfl) rfl rfl rfl (fun hg=>pk (fun _=>aX rfl _))<|.gF rfl (.inr rfl) rfl rfl rfl (fun hg=>rk (EW km (vD:=D.b) (k:=x2) (d:=false) underlying137 zeroValue4 abb (bn rfl (nt hg)) (bn rfl (nt hg)) rfl rfl))<|.P rfl (oT rfl rfl)<|.nil ?_;refine U.cond rfl (fun h3=>?_) (fun h3=>?_)
       ·refine U.seq<|rg<|.ag rfl rfl<|.nil<|U.ret (jY (sE (jY (jY (sE (jY (?_)))))));exact dt rfl (Sub.bool (by exact aa4 hp mS (hq.trans (Ny (by have h9:=h3;rw[PZ]at h9;exact h9)))))
       ·refine U.skip<|rg<|.mv rfl rfl<|.mv rfl rfl<|.W rfl (eV km (vD:=D.b) (k:=x2) (v:=true) underlying137 rfl rfl rfl rfl rfl rfl)<|.nil<|U.nil (bR ?_);refine rg<|.P rfl (bx rfl rfl (ao zO))<|.mv rfl rfl<|.nil<|U.nil (cz ?_);exact⟨⟨au++[x2],az,by simp[aN],hq.trans (Nx (by have h9:=h3;rw[PZ]at h9;exact h9))⟩,by simp,Le.mk rfl (.n 7 rfl rfl (.cons rfl (Sub.int zS) rfl .nil)) (.eq rfl (by(rw[<-ng];exact aT (fun z=>Ob.mp (bP D.str D.b z)) (P0 _ _).symm)) (BR _ _) .nil)⟩
structure amM(a:Int)(r:List Int)where
 pre:List Int
 rest:List Int
 cur:Int
 hx:(a::r)=pre++rest
 hc:tK (a::r)=rest.foldl min cur
def amL(a:Int)(r:List Int):Fc prog 103 [.snap 1 false ((a::r).map fun n:Int=>[D.i n])] (.i (tK (a::r))):=by
 refine ay func103 ntmps103 results103 ?_;refine U.eh 0 rfl (fun hb=>?_);simp only[bB,bD,aD]at hb;refine go [] ?_;refine aH zQ ?_;refine ix zD rfl ?_;refine U.loop (ι:=amM a r) (fun sx=>[(0,.snap 1 false ((a::r).map fun n:Int=>[D.i n])),(3,.i sx.cur),(4,.i sx.pre.length)]) (fun sx=>[]) (fun sx=>sx.rest.length) ⟨[a],r,a,rfl,rfl⟩ ?_ ?_
 ·exact Le.mk rfl (.n 3 rfl rfl .nil) .nil
 ·rintro⟨pre,rest,cur,hx,hc⟩;show U _ _ _ _ [(0,.snap 1 false ((a::r).map fun n:Int=>[D.i n])),(3,.i cur),(4,.i pre.length)] [];have hl:=aT List.length hx;simp only[bl]at hl;rcases rest with _|⟨x,rest⟩
  ·refine go [] ?_;refine aH (by simp at hl|-;omega) ?_;refine go [] ?_;exact af rfl (Sub.int (by exact hc.symm))
  ·simp only[bD]at hl;refine go [] ?_;refine aM zQ ?_;refine ix zO (aK (fun n:Int=>[D.i n]) hx rfl) ?_;refine sd (ao zO) ?_;exact nx ⟨pre++[x],rest,min cur x,by simp[hx],hc⟩ zS (Le.mk rfl (.n 2 rfl rfl (.cons rfl (Sub.int zS) rfl .nil)) .nil)
structure amD(a:Int)(r:List Int)where
 pre:List Int
 rest:List Int
 cur:Int
 hx:(a::r)=pre++rest
 hc:tI (a::r)=rest.foldl max cur
def amC(a:Int)(r:List Int):Fc prog 104 [.snap 1 false ((a::r).map fun n:Int=>[D.i n])] (.i (tI (a::r))):=by
 refine ay func104 ntmps104 results104 ?_;refine U.eh 0 rfl (fun hb=>?_);simp only[bB,bD,aD]at hb;refine go [] ?_;refine aH zQ ?_;refine ix zD rfl ?_;refine U.loop (ι:=amD a r) (fun sx=>[(0,.snap 1 false ((a::r).map fun n:Int=>[D.i n])),(3,.i sx.cur),(4,.i sx.pre.length)]) (fun sx=>[]) (fun sx=>sx.rest.length) ⟨[a],r,a,rfl,rfl⟩ ?_ ?_
 ·exact Le.mk rfl (.n 3 rfl rfl .nil) .nil
 ·rintro⟨pre,rest,cur,hx,hc⟩;show U _ _ _ _ [(0,.snap 1 false ((a::r).map fun n:Int=>[D.i n])),(3,.i cur),(4,.i pre.length)] [];have hl:=aT List.length hx;simp only[bl]at hl;rcases rest with _|⟨x,rest⟩
  ·refine go [] ?_;refine aH (by simp at hl|-;omega) ?_;refine go [] ?_;exact af rfl (Sub.int (by exact hc.symm))
  ·simp only[bD]at hl;refine go [] ?_;refine aM zQ ?_;refine ix zO (aK (fun n:Int=>[D.i n]) hx rfl) ?_;refine sd (ao zO) ?_;exact nx ⟨pre++[x],rest,max cur x,by simp[hx],hc⟩ zS (Le.mk rfl (.n 2 rfl rfl (.cons rfl (Sub.int zS) rfl .nil)) .nil)
def ajS(v:List aa)(x:aa):Fc prog 102 [bg v,.bj [.str x]] (.b (v.any fun m=>decide (x=m))):=by
 refine ay func102 ntmps102 results102 ?_;refine go [] ?_;refine oP (ah call15 rfl (UL _ _)) ?_;exact af rfl (Sub.refl _)
def aeo{α β:Type}(F:α->β){l:List α}(h:decide (((l.map F).length:Int)=0)=false):∃a r,l.map F=a::r:=by
 cases l with
 |nil=>simp at h
 |cons a r=>exact⟨_,_,rfl⟩
def atM(gs:List (List aa))(x:aa):Fc prog 48 [dm gs,.fn (.func 102) [] [.bj [.str x]]] (.i (eW gs x)):=Nz gs _ [.bj [.str x]] rfl (fun v:List aa=>v.any fun m=>decide (x=m)) call102 (fun v _=>ajS v x)
def YC{gs:List (List aa)}{ns pre:List aa}(hx:ns=pre++[])(hp:pre.any (fun x=>decide (eW gs x<0))=false)(h:decide ((pre.length:Int)=0)=true):gh gs ns=(0,0):=by
 rw[iJ]at hx;subst hx;exact Yz hp (by simpa using h)
def YD{gs:List (List aa)}{ns pre:List aa}{a:Int}{r:List Int}(hx:ns=pre++[])(hp:pre.any (fun x=>decide (eW gs x<0))=false)(pV:pre.map (eW gs)=a::r)(h:decide (tK (a::r)≠tI (a::r))=true):gh gs ns=(0,9):=by
 rw[iJ]at hx;subst hx;exact YA hp (by rw[pV];simp;omega) (by rw[pV];exact h)
def YE{gs:List (List aa)}{ns pre:List aa}{a:Int}{r:List Int}(hx:ns=pre++[])(hp:pre.any (fun x=>decide (eW gs x<0))=false)(pV:pre.map (eW gs)=a::r)(h:decide (tK (a::r)≠tI (a::r))=false):gh gs ns=(a,0):=by
 rw[iJ]at hx;subst hx;rw[YB hp (by rw[pV];simp;omega) (by rw[pV];exact h),pV];rfl
structure anM(gs:List (List aa))(f:Fact)where
 pre:List aa
 rest:List aa
 hx:(b_ f)=pre++rest
 hp:pre.any (fun x=>decide (eW gs x<0))=false
def OT(gs:List (List aa))(f:Fact)(hn:f.opts.length<=1000000)(hs:∀s∈fJ f,dX s):Fc prog 56 [dm gs,.agg (aJ f)] (.a_ [.i (gh gs (b_ f)).1,.i (gh gs (b_ f)).2]):=by
 refine gq func56 ntmps56 results56 ?_;refine go [5,12] ?_;refine oP (ah call25 rfl (V7 f hn hs)) ?_;refine U.loop (ι:=anM gs f) (fun sx=>[(0,dm gs),(6,.gs 1 sx.pre.length),(11,bg (b_ f)),(12,.i (b_ f).length),(13,.i sx.pre.length)]) (fun sx=>[(1,.arr 1 ((sx.pre.map (eW gs)).map fun n:Int=>[D.i n]))]) (fun sx=>sx.rest.length) ⟨[],_,rfl,rfl⟩ ?_ ?_
 ·exact(Le.gC 1 1).trans<|Le.mk rfl (.s rfl rfl (.cons rfl (Sub.oz _) rfl (.s rfl rfl (.cons rfl (Sub.int zS) rfl (.s rfl rfl .nil))))) (.arr rfl (by rfl) .nil)
 ·rintro⟨pre,rest,hx,hp⟩;show U _ _ _ _ [(0,dm gs),(6,.gs 1 pre.length),(11,bg (b_ f)),(12,.i (b_ f).length),(13,.i pre.length)] [(1,.arr 1 ((pre.map (eW gs)).map fun n:Int=>[D.i n]))];have hl:=aT List.length hx;simp only[bl]at hl;rcases rest with _|⟨x,rest⟩
  ·refine go [5,12] ?_;refine aH (by simp at hl|-;omega) ?_;refine go [5,12] ?_;refine br (fun h1=>?_) (fun h1=>?_)
   ·exact cw rfl rfl (Sub.int (by rw[YC hx hp h1])) (Sub.int (by rw[YC hx hp h1]))
   ·obtain⟨a,r,pV⟩:=aeo (eW gs) (l:=pre) (by simpa using h1);have k6:r.length+1=pre.length:=by have:=aT List.length pV;simpa using this.symm
    rw[pV];refine U.bc (Le.freeze 6 1 rfl rfl zQ) ?_;refine U.e_ [.p,.p,.p,.p,.p] ?_;refine .mv rfl rfl<|.P rfl (ah call103 rfl (amL a r))<|.mv rfl rfl<|.P rfl (ah call104 rfl (amC a r))<|.P rfl (zy rfl rfl)<|.nil ?_;refine go [5,12] ?_;refine br (fun h2=>?_) (fun h2=>?_)
    ·exact cw rfl rfl (Sub.int (by rw[YD hx hp pV h2])) (Sub.int (by rw[YD hx hp pV h2]))
    ·refine ix zD rfl ?_;exact cw rfl rfl (Sub.int (by rw[YE hx hp pV h2])) (Sub.int (by rw[YE hx hp pV h2]))
  ·simp only[bD]at hl;have A0:=yT f;refine U.eh 11 rfl (fun hb=>?_);simp only[bB,aD]at hb;refine go [5,12] ?_;refine aM zQ ?_;refine ix zO (aK (fun s=>[D.str s]) hx rfl) ?_;refine U.bc (Le.fx 8 0 rfl rfl rfl rfl) ?_;refine go [12] ?_;refine oP (ah call48 rfl (atM gs x)) ?_;refine br (fun h3=>?_) (fun h3=>?_)
   ·exact cw rfl rfl (Sub.int (by rw[OQ hx h3])) (Sub.int (by rw[OQ hx h3]))
   ·refine oP (oQ underlying25 sizeOf3 zeroValue3 rfl rfl rfl rfl rfl) ?_;refine oW (ee 2 underlying25 underlying25 sizeOf3 typeInfo3 zeroValue3 rfl (bt:=8) rfl rfl rfl rfl zS rfl rfl zQ) ?_;refine go [5,12] ?_;refine sd (ao zO) ?_;exact nx ⟨pre++[x],rest,by simp[hx],by rw[pH,hp];simpa using h3⟩ zS ((Le.mk (aj:=[(2,_)]) rfl (show ct _ _ [(0,_),(6,_),(11,_),(12,_),(13,_)]from(.n 5 rfl rfl .nil)) (.cons (i:=2) rfl rfl .nil)).trans<|(Le.iz 6 2 1 rfl rfl zS rfl).trans<|Le.mk rfl (.s rfl rfl (.cons rfl (Sub.gs zS) rfl (.n 2 rfl rfl (.cons rfl (Sub.int zS) rfl .nil)))) (.arr rfl zS .nil))
end Go.T
namespace Go.T
open Go
def ir(s:aa):List aa->List aa
 |[]=>[s]
 |a::r=>if aa.lt a s=true then a::ir s r else if decide (a=s)=true then a::r else s::a::r
theorem Ij{s x:aa}:∀{l:List aa},x∈ir s l↔x=s\/x∈l
 |[]=>by simp[ir]
 |a::r=>by
  unfold ir;split
  ·rw[cr,Ij,cr];exact or_left_comm
  ·split
   ·rename_i _ h;obtain rfl:=aG h;simp
   ·exact cr
@[reducible] def ie(l:List aa):Prop:=l.Pairwise fun a b=>aa.lt a b=true
def amd{a b:aa}(h:aa.lt a b=false)(hn:a≠b):aa.lt b a=true:=by
 refine NO ?_ (fun e=>hn e.symm);have:¬a<b:=by rw[<-r9,h];simp
 exact xo.1 this
theorem Ke{s:aa}:∀{l:List aa},ie l->ie (ir s l)
 |[],_=>by simp[ir,ie]
 |a::r,h=>by
  have h1:=xw.1 h;unfold ir;split
  ·rename_i g;refine xw.2 ⟨fun x hx=>?_,Ke h1.2⟩;rcases Ij.1 hx with rfl|hx
   ·exact g
   ·exact h1.1 x hx
  ·split
   ·exact h
   ·rename_i g1 g2;have hl:aa.lt s a=true:=amd (by simpa using g1) (by simpa using g2);refine xw.2 ⟨fun x hx=>?_,h⟩;rcases cr.1 hx with rfl|hx
    ·exact hl
    ·exact H9 hl (h1.1 x hx)
theorem H0{s:aa}:∀{l:List aa},(ir s l).length<=l.length+1
 |[]=>by simp[ir]
 |a::r=>by
  unfold ir;split
  ·simpa using H0 (l:=r)
  ·split<;>simp
def e5(one ns:List aa):List aa:=ns.foldl (fun l s=>ir s l) one
@[simp] def axv(one:List aa):e5 one []=one:=rfl
theorem Ii{x:aa}:∀{ns one:List aa},x∈e5 one ns↔x∈one\/x∈ns
 |[],one=>by simp[e5]
 |a::r,one=>by
  rw[show e5 one (a::r)=e5 (ir a one) r from rfl,Ii,Ij,cr];constructor
  ·rintro((h|h)|h)
   ·exact .inr (.inl h)
   ·exact .inl h
   ·exact .inr (.inr h)
  ·rintro(h|h|h)
   ·exact .inl (.inr h)
   ·exact .inl (.inl h)
   ·exact .inr h
theorem FW:∀{ns one:List aa},ie one->ie (e5 one ns)
 |[],_,h=>h
 |_::r,_,h=>FW (ns:=r) (Ke h)
theorem yZ:∀{ns one:List aa},(e5 one ns).length<=one.length+ns.length
 |[],_=>dP _
 |a::r,one=>by
  have h1:=yZ (ns:=r) (one:=ir a one);have h2:=H0 (s:=a) (l:=one);rw[show e5 one (a::r)=e5 (ir a one) r from rfl,bD];omega
def HP(one ns:List aa)(x:aa):e5 one (ns++[x])=ir x (e5 one ns):=by unfold e5;rw[rH];rfl
@[reducible] def s8(l:List aa)(s:aa):Bool:=l.any fun y=>decide (y=s)
@[reducible] def mZ(ns g:List aa):Bool:=g.any (s8 ns)
def XS{ns g:List aa}:mZ ns g=true↔∃x∈g,x∈ns:=by
 simp only[mZ,s8,j_,cd];constructor
 ·rintro⟨x,hx,y,hy,rfl⟩;exact⟨_,hx,hy⟩
 ·rintro⟨x,hx,hy⟩;exact⟨x,hx,x,hy,rfl⟩
def iw(gs:List (List aa))(ns one:List aa):List aa:=(gs.filter (mZ ns)).foldl e5 one
@[reducible] def jz(gs:List (List aa))(ns:List aa):List (List aa):=gs.filter fun g=>!mZ ns g
def lh(gs:List (List aa))(ns:List aa):List (List aa):=
 jz gs ns++(if decide (0<((iw gs ns (e5 [] ns)).length:Int))=true then[iw gs ns (e5 [] ns)]else[])
def anU{gs:List (List aa)}{ns one g:List aa}(h:mZ ns g=true):iw (gs++[g]) ns one=e5 (iw gs ns one) g:=by
 unfold iw;rw[nq,xe h,rH];rfl
def anT{gs:List (List aa)}{ns one g:List aa}(h:mZ ns g=false):iw (gs++[g]) ns one=iw gs ns one:=by
 unfold iw;rw[nq,xl (by rw[h];simp)];simp
def Wn{gs:List (List aa)}{ns g:List aa}(h:mZ ns g=true):jz (gs++[g]) ns=jz gs ns:=by
 unfold jz;rw[nq,xl (by rw[h];simp)];simp
def Wm{gs:List (List aa)}{ns g:List aa}(h:mZ ns g=false):jz (gs++[g]) ns=jz gs ns++[g]:=by
 unfold jz;rw[nq,xe (by rw[h];rfl)];rfl
theorem XP{x:aa}:∀{L:List (List aa)}{one:List aa},x∈L.foldl e5 one↔x∈one\/∃g∈L,x∈g
 |[],one=>by simp
 |a::r,one=>by
  rw[oe,XP,Ii];constructor
  ·rintro((h|h)|⟨g,h1,h2⟩)
   ·exact .inl h
   ·exact .inr ⟨a,c7,h⟩
   ·exact .inr ⟨g,cC _ h1,h2⟩
  ·rintro(h|⟨g,h1,h2⟩)
   ·exact .inl (.inl h)
   ·rcases cr.1 h1 with rfl|h1
    ·exact .inl (.inr h2)
    ·exact .inr ⟨g,h1,h2⟩
theorem Q4:∀{L:List (List aa)}{one:List aa},ie one->ie (L.foldl e5 one)
 |[],_,h=>h
 |_::r,_,h=>Q4 (L:=r) (FW h)
def Eo{gs:List (List aa)}{ns:List aa}{x:aa}:x∈iw gs ns (e5 [] ns)↔x∈ns\/∃g∈gs,mZ ns g=true/\x∈g:=by
 unfold iw;rw[XP,Ii];simp only[tu,false_or,eX,and_assoc]
def Q6(gs:List (List aa))(ns:List aa):ie (iw gs ns (e5 [] ns)):=Q4 (FW List.Pairwise.nil)
theorem H2(ns:List aa):∀(gs:List (List aa))(one:List aa),(jz gs ns).flatten.length+(iw gs ns one).length<=gs.flatten.length+one.length
 |[],one=>by simp[iw,jz]
 |g::r,one=>by
  by_cases h:mZ ns g=true
  ·have h1:=H2 ns r (e5 one g);have h2:=yZ (ns:=g) (one:=one);have e1:iw (g::r) ns one=iw r ns (e5 one g):=by unfold iw;rw[xe h];rfl
   have e2:jz (g::r) ns=jz r ns:=by unfold jz;rw[xl (by rw[h];simp)]
   rw[e1,e2,fW,bl];omega
  ·have h1:=H2 ns r one;have h:mZ ns g=false:=by simpa using h
   have e1:iw (g::r) ns one=iw r ns one:=by unfold iw;rw[xl (by rw[h];simp)]
   have e2:jz (g::r) ns=g::jz r ns:=by unfold jz;rw[xe (by rw[h];rfl)]
   rw[e1,e2,fW,fW,bl,bl];omega
def WW(gs:List (List aa))(ns:List aa):(lh gs ns).flatten.length<=gs.flatten.length+ns.length/\(lh gs ns).length<=gs.length+1:=by
 have h1:=H2 ns gs (e5 [] ns);have h2:=yZ (ns:=ns) (one:=[]);have h3:(jz gs ns).length<=gs.length:=nw _ _;unfold lh;constructor
 ·rw[qX,bl];split
  ·simp only[fW,Kb,iJ];simp only[hG]at h2;omega
  ·simp only[Kb,hG]at h2|-;omega
 ·rw[bl];split
  ·simp;omega
  ·simp;omega
structure qt(Ls gs:List (List aa)):Prop where
 ne:∀g∈gs,g≠[]
 Kc:∀g∈gs,ie g
 nd:gs.flatten.Nodup
 DV:∀r∈Ls,r≠[]->∃g∈gs,∀x∈r,x∈g
 Ga:∀g∈gs,∀x∈g,∀y∈g,gk Ls x y
 It:∀g∈gs,∀x∈g,named Ls x
def TP{a b:List (List aa)}(h:a.Sublist b):a.flatten.Sublist b.flatten:=by
 induction h with
 |slnil=>exact List.Sublist.refl _
 |cons x _ ih=>rw[fW];exact ih.trans (List.sublist_append_right _ _)
 |cons_cons x _ ih=>rw[fW,fW];exact ih.append_left _
def aiH:qt [] []:=⟨by simp,by simp,by simp,by simp,by simp,by simp⟩
def Kf{l:List aa}(h:ie l):l.Nodup:=h.imp fun h=>N0 h
def Wj{Ls gs jD:List (List aa)}{ns:List aa}(h:qt Ls gs)(hL:∀r,r∈jD↔r=ns\/r∈Ls):qt jD (lh gs ns):=by
 have cU:∀{x y:aa},gk Ls x y->gk jD x y:=fun hc=>hc.mono fun l hl=>⟨l,(hL l).2 (.inr hl),fun _=>id⟩;have nU:∀{x:aa},named Ls x->named jD x:=fun⟨l,hl,hx⟩=>⟨l,(hL l).2 (.inr hl),hx⟩;have yI:ns∈jD:=(hL ns).2 (.inl rfl)
 -- every name of the new group hangs together with one of the names
 have qn:∀x∈iw gs ns (e5 [] ns),(∃z∈ns,gk jD x z)/\named jD x:=by
  intro x hx;rcases Eo.1 hx with hx|⟨g,hg,hm,hx⟩
  ·exact⟨⟨x,hx,.refl x⟩,ns,yI,hx⟩
  ·obtain⟨z,hz,hzn⟩:=XS.1 hm;exact⟨⟨z,hzn,cU (h.Ga g hg x hx z hz)⟩,nU (h.It g hg x hx)⟩
 have mem:∀g,g∈lh gs ns↔(g∈gs/\mZ ns g=false)\/(g=iw gs ns (e5 [] ns)/\g≠[]):=by
  intro g;unfold lh;rw[cM,eX];refine or_congr zS ?_;generalize iw gs ns (e5 [] ns)=one;cases one with
  |nil=>simp
  |cons a r=>rw[aV zS];simp only[kl];exact⟨fun e=>⟨e,by rw[e];simp⟩,(·.1)⟩
 have aD:∀g∈gs,mZ ns g=true->∀x∈g,x∈iw gs ns (e5 [] ns):=fun g hg hm x hx=>Eo.2 (.inr ⟨g,hg,hm,hx⟩);refine⟨fun g hg=>?_,fun g hg=>?_,?_,fun r hr aC=>?_,fun g hg x hx y hy=>?_,fun g hg x hx=>?_⟩
 ·rcases(mem g).1 hg with⟨h1,_⟩|⟨_,h2⟩
  ·exact h.ne g h1
  ·exact h2
 ·rcases(mem g).1 hg with⟨h1,_⟩|⟨rfl,_⟩
  ·exact h.Kc g h1
  ·exact Q6 gs ns
 ·unfold lh;rw[qX,wG];refine⟨?_,?_,?_⟩
  ·exact h.nd.sublist (TP List.filter_sublist)
  ·split
   ·simpa using Kf (Q6 gs ns)
   ·simp
  ·rintro x hx y hy rfl;obtain⟨g,hg,VN⟩:=lA.1 hx;obtain⟨hg,hm⟩:=eX.1 hg;have hm:mZ ns g=false:=by simpa using hm
   have DS:x∈iw gs ns (e5 [] ns):=by
    split at hy
    ·simpa using hy
    ·simp at hy
   rcases Eo.1 DS with hn|⟨g',me,DA,ajN⟩
   ·rw[XS.2 ⟨x,VN,hn⟩]at hm;cases hm
   ·rw[GP h.nd hg me VN ajN,DA]at hm;cases hm
 ·rcases(hL r).1 hr with rfl|hr
  ·obtain⟨a,ha⟩:=Em _ aC;refine⟨_,(mem _).2 (.inr ⟨rfl,pw (Eo.2 (.inl ha))⟩),fun x hx=>Eo.2 (.inl hx)⟩
  ·obtain⟨g,hg,eJ⟩:=h.DV r hr aC;cases hm:mZ ns g with
   |false=>exact⟨g,(mem g).2 (.inl ⟨hg,hm⟩),eJ⟩
   |true=>
    obtain⟨a,ha⟩:=Em _ aC;exact⟨_,(mem _).2 (.inr ⟨rfl,pw (aD g hg hm a (eJ a ha))⟩),fun x hx=>aD g hg hm x (eJ x hx)⟩
 ·rcases(mem g).1 hg with⟨h1,_⟩|⟨rfl,_⟩
  ·exact cU (h.Ga g h1 x hx y hy)
  ·obtain⟨⟨z,hz,c1⟩,_⟩:=qn x hx;obtain⟨⟨z',qT,c2⟩,_⟩:=qn y hy;exact(c1.trans (.one yI hz qT)).trans c2.symm
 ·rcases(mem g).1 hg with⟨h1,_⟩|⟨rfl,_⟩
  ·exact nU (h.It g h1 x hx)
  ·exact(qn x hx).2
def aiG{Ls gs out:List (List aa)}(h:qt Ls gs)(hp:out.Perm gs)(hh:(out.map (·.headD [])).Pairwise fun a b=>a<=b):gJ Ls=out:=by
 have mp:∀g,g∈out↔g∈gs:=fun g=>hp.mem_iff;have hd:∀g∈gs,g.headD []∈g:=fun g hg=>by
  cases g with
  |nil=>exact absurd rfl (h.ne _ hg)
  |cons a r=>exact c7
 refine Mc (fun g hg=>h.ne g ((mp g).1 hg)) (fun g hg=>(h.Kc g ((mp g).1 hg)).imp fun k=>IA ((r9 _ _).1 k)) (hp.flatten.nodup_iff.2 h.nd) hh (fun r hr aC=>?_) (fun g hg x hx=>?_)
 ·obtain⟨g,hg,k⟩:=h.DV r hr aC;exact⟨g,(mp g).2 hg,k⟩
 ·have hg:=(mp g).1 hg;exact⟨h.Ga g hg _ (hd g hg) x hx,h.It g hg x hx⟩
def apR:fN dJ=([],[49]):=by decide+kernel
def adb{f:aO}(h:iI f=0):f=cS (val (fN f).1) (val (fN f).2):=by
 rw[Ia];unfold iI at h;by_cases k:f=cS (val (bQ f).1) (val (bQ f).2)
 ·exact k
 ·rw[aF k]at h;cases h
def I'{f:aO}(h:iI f=0):kg f dJ=sg f:=by
 have e1:kg f dJ=fX (val (fN f).1):=by
  unfold kg;rw[apR,tU,gO,gO];show fX (val (fN f).1*val [49]-val []*val (fN f).2)=_;rw[vZ,val_one,Int.mul_one,Int.zero_mul,J9]
 have e2:=aaq (n:=val (fN f).1) (EZ f);rw[<-adb h]at e2;rw[e1,<-e2];rfl
@[reducible] def ze(f:aO):Bool:=!decide ([f.num,f.den]=[[],[]])
def IF{f:aO}(h:iI f=0):ze f=decide (sg f≠0):=by
 unfold ze;rw[GV,<-I' h,mE];simp only[lD,dY,cd,ne_eq,Kz h]
def Ow(m:Int):Bool:=decide (m=1)||decide (m=2)||decide (m=3)||decide (m=4)||decide (m=6)||decide (m=12)
def D0(i:aS):Int:=if(ze i.gp||ze i.gn||decide (i.r_≠0)||decide (i.count≠0))=true then 1 else 0
def Kr(i:aS):Int:=if(decide (kg i.gp dJ<=0)||decide (kg i.gn dJ<0)||!Ow i.r_||decide (i.count<1)||decide (5<i.count))=true then 2 else if(decide (i.other≠[])||ze i.fY)=true then 1 else 0
def L1(i:aS):Int:=if(!gf i.other||decide (i.other=i.cur))=true then 12 else if decide (kg i.fY dJ<=0)=true then 2 else D0 i
def Bl(i:aS):Int:=if decide (i.kind=2)=true then Kr i else if decide (i.kind=5)=true then L1 i else if(decide (i.other≠[])||ze i.fY)=true then 1 else D0 i
def akF{a b:Bool}:(if a=true then(1:Int)else if b=true then 1 else 0)=if(a||b)=true then 1 else 0:=by cases a<;>cases b<;>rfl
def ak2{i:aS}(h1:iI i.gp=0)(h2:iI i.gn=0)(h3:iI i.fY=0):Bl i=xB i.kind i:=by
 have eb:Kr i=FY i:=by
  unfold Kr FY Rg Rh;rw[I' h1,I' h2,IF h3,show Ow i.r_=[1,2,3,4,6,12].any (fun n=>decide (i.r_=n)) by simp[Ow,Bool.or_assoc]]
 have el:D0 i=if GZ i=true then 1 else 0:=by unfold D0 GZ;rw[IF h1,IF h2]
 have ef:L1 i=G0 i:=by unfold L1 G0;rw[I' h3,el]
 have ep:(if(decide (i.other≠[])||ze i.fY)=true then 1 else D0 i)=I3 i:=by
  rw[el,akF,IF h3];unfold I3 Zq GZ
  congr 2
  cases decide (sg i.gp≠0)<;>cases decide (sg i.gn≠0)<;>cases decide (i.r_≠0)<;>cases decide (i.count≠0)<;>cases decide (sg i.fY≠0)<;>cases decide (i.other≠[])<;>rfl
 unfold Bl xB;rw[eb,ef,ep];simp only[cd]
@[reducible] def KR(d:Int):Bool:=decide (d< -25567)||decide (84005<d)
@[reducible] def Gg(d:Int):Int:=if KR d=true then 13 else 0
def Oj(i:aS):Bool:=decide (i.tH=0)&&(decide (i.kind=2)||decide (i.kind=5))||decide (i.tH≠0)&&(decide (Gg i.tH≠0)||decide (i.tH<=i.yU))
def rZ(i:aS):Int:=
 if(!isName i.id)=true then 23 else if(decide (i.kind<1)||decide (5<i.kind))=true then 7 else if(!gf i.cur)=true then 12
 else if(decide (i.places<0)||decide (12<i.places))=true then 2 else if decide (Gg i.yU≠0)=true then 13 else if Oj i=true then 13 else jB (Bl i) [i.gp,i.gn,i.fY]
def R1(d:Int):decide (Gg d≠0)=!zV d:=by
 have:KR d=!zV d:=by
  unfold KR zV;rw[mE];simp only[fZ,cd,lD,Bool.and_eq_false_iff,dY];omega
 unfold Gg;rw[this];cases zV d<;>rfl
theorem Yv{d d':Int}:∀(l:List aO),((∀f∈l,ke f=0)->d=d')->jB d l=jB d' l
 |[],h=>h (fun _ h=>by cases h)
 |f::r,h=>by
  unfold jB;split
  ·rfl
  ·rename_i k;refine Yv r fun hr=>h fun x hx=>?_;rcases cr.1 hx with rfl|hx
   ·simpa using k
   ·exact hr x hx
def ON{f:aO}(h:ke f=0):iI f=0:=by
 unfold ke at h;by_cases k:iI f=0
 ·exact k
 ·rw[aV (iH k)]at h;cases h
def akh(i:aS):rZ i=jL i:=by
 unfold rZ jL;rw[R1,Yv (d':=xB i.kind i) [i.gp,i.gn,i.fY] (fun h=>ak2 (ON (h _ zS)) (ON (h _ zS)) (ON (h _ zS))),
  show Oj i=Oi i by unfold Oj Oi C1;rw[R1,Bool.or_comm]]
def am7{e d:Int}{rest:List aO}{x:aO}(h:e=jB d (x::rest))(k:decide (ke x≠0)=true):ke x=e:=by rw[h,jB,aV k]
def am6{e d:Int}{rest:List aO}{x:aO}(h:e=jB d (x::rest))(k:decide (ke x≠0)=false):e=jB d rest:=by rw[h,jB,aF (by rw[k];simp)]
def tN{e:Int}{i:aS}{r:Int}(h:e=jB (Bl i) [])(k:r=Bl i):r=e:=k.trans h.symm
def aeC{pre:List bL}{c:bL}(h:(!gf c.code)=false)(h2:(decide (c.places<0)||decide (12<c.places))=false)(h3:pre.any (fun d=>decide (d.code=c.code))=true):nD pre c=5:=by simp only[nD,h,h2,h3];rfl
def aeB{pre:List bL}{c:bL}(h:(!gf c.code)=false)(h2:(decide (c.places<0)||decide (12<c.places))=false)(h3:pre.any (fun d=>decide (d.code=c.code))=false):nD pre c=0:=by simp only[nD,h,h2,h3];rfl
def amK{α:Type}{l pre au az q:List α}{y:α}(h:l=pre++q)(h2:pre=au++y::az):l=au++y::(az++q):=by rw[h,h2];simp
def ahv{α:Type}{P:α->Bool}{l pre rest:List α}{x:α}(hx:l=pre++x::rest)(hp:pre.any P=false)(h:P x=true):(pre.length:Int)=max (fw P l) 0:=by
 have:(pre.length:Int)=fw P l:=uE hx hp h;omega
def ahu{α:Type}{P:α->Bool}{l pre:List α}(hx:l=pre++[])(hp:pre.any P=false):(0:Int)=max (fw P l) 0:=by
 have:(-1:Int)=fw P l:=uD hx hp;omega
@[reducible] def wN(t:List bL)(c:aa):Bool:=t.any fun y=>decide (y.code=c)
def WB(i:aS)(t:List bL):DZ i t=if(!wN t i.cur||(decide (i.kind=5)&&!wN t i.other))=true then 12 else 0:=by
 unfold DZ pO wN;by_cases h:i.kind=5
 ·rw[aV h];simp only[pJ,y0,tC,GL,h,C7,oL]
 ·rw[aF h];simp only[pJ,y0,tC,GL,h,BL,zT]
def LQ{l pre rest:List aS}{x:aS}(hx:l=pre++x::rest):decide (max (fw (fun y=>decide (y.id=x.id)) l) 0<(pre.length:Int))=pre.any fun y=>decide (y.id=x.id):=by
 have ha:l.any (fun y=>decide (y.id=x.id))=true:=oh hx zS;unfold fw;rw[aV ha,hx,List.findIdx_append,mE,cd,j_];rw[<-List.findIdx_lt_length];split
 ·rename_i k;omega
 ·rename_i k;omega
def aki{pre:List aS}{x:aS}{t:List bL}(h:decide (jL x≠0)=false)(h2:pre.any (fun y=>decide (y.id=x.id))=false)(h3:(!wN t x.cur||(decide (x.kind=5)&&!wN t x.other))=true):oD pre x t=12:=by
 rw[HR h h2,WB,aV h3]
def akj{pre:List aS}{x:aS}{t:List bL}(h:decide (jL x≠0)=false)(h2:pre.any (fun y=>decide (y.id=x.id))=false)(h3:(!wN t x.cur||(decide (x.kind=5)&&!wN t x.other))=false):oD pre x t=0:=by
 rw[HR h h2,WB,aF (by rw[h3];simp)]
def iD(l:List aa)(s:aa):List aa:=if decide (s=[])=true then l else ir s l
def tP(f:Fact):List aa:=f.opts.foldl (fun l o=>iD l o.other) (if xb f=true then iD (iD [] f.dV) f.other else iD [] f.dV)
def Il{l:List aa}{s x:aa}:x∈iD l s↔(x=s/\x≠[])\/x∈l:=by
 unfold iD;by_cases h:s=[]
 ·rw[aV (iH h),h];constructor
  ·exact .inr
  ·rintro(⟨a,b⟩|a)
   ·exact absurd a b
   ·exact a
 ·rw[aF (by simpa using h),Ij];constructor
  ·rintro(rfl|a)
   ·exact .inl ⟨rfl,h⟩
   ·exact .inr a
  ·rintro(⟨a,b⟩|a)
   ·exact .inl a
   ·exact .inr a
def qm(done:Bool)(s:aa)(rest:List aa):List aa:=if done=true then rest else ir s rest
def aaX{done:Bool}{s x:aa}{r:List aa}(h:(!done&&!aa.lt x s)=true)(h2:decide (x≠s)=true):qm done s (x::r)=s::x::qm true s r:=by
 rw[bd]at h;have hd:done=false:=by simpa using h.1
 have hl:aa.lt x s=false:=by simpa using h.2
 subst hd;unfold qm;rw[aF zS,ir,aF (by rw[hl];simp),aF (by simpa using h2)];rfl
def ate{done:Bool}{s x:aa}{r:List aa}(h:(!done&&!aa.lt x s)=true)(h2:decide (x≠s)=false):qm done s (x::r)=x::qm true s r:=by
 rw[bd]at h;have hd:done=false:=by simpa using h.1
 have hl:aa.lt x s=false:=by simpa using h.2
 subst hd;unfold qm;rw[aF zS,ir,aF (by rw[hl];simp),aV (by simpa using h2)];rfl
def atf{done:Bool}{s x:aa}{r:List aa}(h:(!done&&!aa.lt x s)=false):qm done s (x::r)=x::qm done s r:=by
 unfold qm;cases done with
 |true=>rfl
 |false=>
  have hl:aa.lt x s=true:=by simpa using h
  rw[aF zS,aF zS,ir,aV hl]
def atg{done:Bool}{s:aa}(h:(!done)=true):qm done s []=[s]:=by
 have hd:done=false:=by simpa using h
 subst hd;rfl
def ath{done:Bool}{s:aa}(h:(!done)=false):qm done s []=[]:=by
 have hd:done=true:=by simpa using h
 subst hd;rfl
def FX{l:List aa}{s:aa}(h:ie l):ie (iD l s):=by
 unfold iD;split
 ·exact h
 ·exact Ke h
def Bo{l:List aa}{s:aa}:(iD l s).length<=l.length+1:=by
 unfold iD;split
 ·omega
 ·exact H0
def anb{f:Fact}(h:xb f=true):tP f=f.opts.foldl (fun l o=>iD l o.other) (iD (iD [] f.dV) f.other):=by unfold tP;rw[aV h]
def ana{f:Fact}(h:xb f=false):tP f=f.opts.foldl (fun l o=>iD l o.other) (iD [] f.dV):=by unfold tP;rw[aF (by rw[h];simp)]
theorem XQ{x:aa}:∀(os:List cY)(l:List aa),x∈os.foldl (fun l o=>iD l o.other) l↔(x∈os.map (·.other)/\x≠[])\/x∈l
 |[],l=>by simp
 |o::r,l=>by
  rw[oe,XQ r,Il,cP,cr];constructor
  ·rintro(⟨a,b⟩|⟨a,b⟩|a)
   ·exact .inl ⟨.inr a,b⟩
   ·exact .inl ⟨.inl a,b⟩
   ·exact .inr a
  ·rintro(⟨a|a,b⟩|a)
   ·exact .inr (.inl ⟨a,b⟩)
   ·exact .inl ⟨a,b⟩
   ·exact .inr (.inr a)
theorem Q5:∀(os:List cY){l:List aa},ie l->ie (os.foldl (fun l o=>iD l o.other) l)
 |[],_,h=>h
 |_::r,_,h=>Q5 r (FX h)
def Kg:ie []:=List.Pairwise.nil
def amG{f:Fact}{x:aa}:x∈tP f↔x∈fJ f/\x≠[]:=by
 unfold tP fJ kB;rw[XQ,cM];by_cases h:xb f=true
 ·rw[aV h,aV h,Il,Il];simp only[tu,GD,cM,kl];constructor
  ·rintro(⟨a,b⟩|⟨a,b⟩|⟨a,b⟩)
   ·exact⟨.inr a,b⟩
   ·exact⟨.inl (.inr a),b⟩
   ·exact⟨.inl (.inl a),b⟩
  ·rintro⟨(a|a)|a,b⟩
   ·exact .inr (.inr ⟨a,b⟩)
   ·exact .inr (.inl ⟨a,b⟩)
   ·exact .inl ⟨a,b⟩
 ·rw[aF h,aF h,Il];simp only[tu,GD,kl];constructor
  ·rintro(⟨a,b⟩|⟨a,b⟩)
   ·exact⟨.inr a,b⟩
   ·exact⟨.inl a,b⟩
  ·rintro⟨a|a,b⟩
   ·exact .inr ⟨a,b⟩
   ·exact .inl ⟨a,b⟩
def acz(f:Fact):ie (tP f):=by
 unfold tP;refine Q5 _ ?_;split
 ·exact FX (FX Kg)
 ·exact FX Kg
theorem Kd{l:List aa}(h:l.Pairwise fun a b=>a<=b):∀m,m<=l.length->ie (Lib.compactUpTo l.toArray m)
 |0,_=>by simp[Lib.compactUpTo,ie]
 |m+1,hm=>by
  rw[Lib.compactUpTo_succ];have ih:=Kd h m zO;have hg:∀j,j<l.length->l.toArray[j]! =l[j]!:=fun j hj=>by simp
  have fh:∀i j,i<=j->j<l.length->l[i]!<=l[j]!:=fun i j AZ hj=>by
   rcases eQ i j with k|k
   ·rw[ya l i zO,ya l j hj];exact qC.1 h i j zO hj k
   ·obtain rfl:i=j:=by omega
    exact J5 _
  refine pd.2 ⟨ih,?_,fun x hx y hy=>?_⟩
  ·split<;>simp
  ·by_cases hk:Lib.keeps l.toArray m=true
   ·rw[aV hk]at hy;obtain rfl:y=l.toArray[m]!:=by simpa using hy
    obtain⟨j,hj,_,rfl⟩:=(Oq m x).1 hx;unfold Lib.keeps at hk;have hk:=aG hk;have hk:l.toArray[m]!≠l.toArray[m-1]!:=hk.resolve_left zO;rw[hg _ zO,hg _ zO]at hk;rw[hg _ zO,hg _ zO];have h1:=fh j (m-1) zO zO;have h2:=fh (m-1) m zO zO;refine NO (Gm h1 h2) fun e=>hk ?_;rw[<-e]at h2|-;exact tB h1 h2
   ·rw[aF hk]at hy;cases hy
def acy(f:Fact):ie (b_ f):=Kd (uc _) _ (dP _)
def Q3{a b:List aa}(ha:ie a)(hb:ie b)(h:∀x,x∈a↔x∈b):a=b:=
 Fe (Zh (Kf ha) (Kf hb) h) (ha.imp fun k=>IA ((r9 _ _).1 k)) (hb.imp fun k=>IA ((r9 _ _).1 k))
def Ye(f:Fact):tP f=b_ f:=Q3 (acz f) (acy f) fun x=>by rw[amG,Oo]
end Go.T
