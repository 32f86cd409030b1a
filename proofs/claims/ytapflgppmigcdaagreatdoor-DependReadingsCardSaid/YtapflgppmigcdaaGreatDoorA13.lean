/- Contracts of functions that the statement reaches, and the logic in which they are proved (no condition). -/
import Derived.Test.YtapflgppmigcdaaGreatDoorA12
set_option linter.all false
set_option maxRecDepth 20000
namespace Go.T
open Go Go.Proofs Go.Proofs.Tryz
structure agC(a b:List dE)where
 pre:List dE
 rest:List dE
 au:List dE
 az:List dE
 hx:a=pre++rest
 hy:b=au++az
 hp:pre=au
 mf:au.length=pre.length
 k6:az.length=rest.length
def agB(a b:List dE):Fc prog 114 [ru a,ru b] (.b (j1 a b)):=by
 refine ay func114 ntmps114 results114 ?_;refine U.eh 0 rfl (fun hb=>?_);simp only[bB,aD]at hb;refine U.eh 1 rfl (fun fH=>?_);simp only[bB,aD]at fH;refine go []<|br (fun h1=>?_) (fun h1=>?_)
 ·exact af rfl (Sub.bool (by exact GA (by have h9:=h1;simp at h9;omega)))
 ·refine U.loop (ι:=agC a b) (fun sx=>[(0,ru a),(1,ru b),(12,.i a.length),(13,.i sx.pre.length)]) (fun sx=>[]) (fun sx=>sx.rest.length) ⟨[],a,[],b,rfl,rfl,rfl,rfl,by simp at h1;omega⟩ ?_ ?_
  ·exact Le.mk rfl (.n 2 rfl rfl (.cons rfl (Sub.int zS) rfl (.s rfl rfl .nil))) .nil
  ·rintro⟨pre,rest,au,az,hx,hy,hp,mf,k6⟩;dsimp only;rcases lc hx with⟨rfl,hl⟩|⟨x,rest,rfl,hl⟩
   ·obtain rfl:az=[]:=cc.1 (by simpa using k6);exact go []<|aH (by simp at hl|-;omega)<|go []<|af rfl (Sub.bool (by exact Gz hx hy hp))
   ·obtain⟨y,az,rfl⟩:=Gb (n:=rest.length) (by simpa using k6);refine go []<|aM zQ<|ix zO (aK j0 hx rfl)<|ix zO (aK j0 hy zO)<|oP (oS (xs:=[x.fT,x.dc]) (ys:=[y.fT,y.dc]) underlying85 LW LW (.cons zK underlying9 isAgg9 rfl (.cons zK underlying33 isAgg33 rfl (.nil _))) rfl rfl rfl rfl rfl rfl)<|ord<|br (fun h2=>?_) (fun h2=>?_)
    ·exact af rfl (Sub.bool (by exact GB hx hy mf (aoQ h2)))
    ·exact sd (ao zO)<|nx ⟨pre++[x],rest,au++[y],az,by simp[hx],by simp[hy],by rw[hp,aoP h2],by simp[mf],by simpa using k6⟩ zS (Le.mk rfl (.n 3 rfl rfl (.cons rfl (Sub.int zS) rfl .nil)) .nil)
structure agA(a b:List cY)where
 pre:List cY
 rest:List cY
 au:List cY
 az:List cY
 hx:a=pre++rest
 hy:b=au++az
 hp:pre=au
 mf:au.length=pre.length
 k6:az.length=rest.length
def agz(a b:List cY):Fc prog 115 [qk a,qk b] (.b (j1 a b)):=by
 refine ay func115 ntmps115 results115 ?_;refine U.eh 0 rfl (fun hb=>?_);simp only[bB,aD]at hb;refine U.eh 1 rfl (fun fH=>?_);simp only[bB,aD]at fH;refine go []<|br (fun h1=>?_) (fun h1=>?_)
 ·exact af rfl (Sub.bool (by exact GA (by have h9:=h1;simp at h9;omega)))
 ·refine U.loop (ι:=agA a b) (fun sx=>[(0,qk a),(1,qk b),(12,.i a.length),(13,.i sx.pre.length)]) (fun sx=>[]) (fun sx=>sx.rest.length) ⟨[],a,[],b,rfl,rfl,rfl,rfl,by simp at h1;omega⟩ ?_ ?_
  ·exact Le.mk rfl (.n 2 rfl rfl (.cons rfl (Sub.int zS) rfl (.s rfl rfl .nil))) .nil
  ·rintro⟨pre,rest,au,az,hx,hy,hp,mf,k6⟩;dsimp only;rcases lc hx with⟨rfl,hl⟩|⟨x,rest,rfl,hl⟩
   ·obtain rfl:az=[]:=cc.1 (by simpa using k6);exact go []<|aH (by simp at hl|-;omega)<|go []<|af rfl (Sub.bool (by exact Gz hx hy hp))
   ·obtain⟨y,az,rfl⟩:=Gb (n:=rest.length) (by simpa using k6);refine go []<|aM zQ<|ix zO (aK mF hx rfl)<|ix zO (aK mF hy zO)<|oP (ZO (xs:=(ri x)) (ys:=(ri y)) underlying87 LW LW (.str zK underlying9 isAgg9 rfl (.sub zK underlying35 LW isAgg35 sizeOf35 rfl (.cons zK underlying33 isAgg33 rfl (.cons zK underlying33 isAgg33 rfl (.nil _))) rfl (.sub zK underlying35 LW isAgg35 sizeOf35 rfl (.cons zK underlying33 isAgg33 rfl (.cons zK underlying33 isAgg33 rfl (.nil _))) rfl (.sub zK underlying35 LW isAgg35 sizeOf35 rfl (.cons zK underlying33 isAgg33 rfl (.cons zK underlying33 isAgg33 rfl (.nil _))) rfl (.nil _))))) rfl rfl rfl rfl rfl rfl)<|ord<|br (fun h2=>?_) (fun h2=>?_)
    ·exact af rfl (Sub.bool (by exact GB hx hy mf (an6 h2)))
    ·exact sd (ao zO)<|nx ⟨pre++[x],rest,au++[y],az,by simp[hx],by simp[hy],by rw[hp,an5 h2],by simp[mf],by simpa using k6⟩ zS (Le.mk rfl (.n 3 rfl rfl (.cons rfl (Sub.int zS) rfl .nil)) .nil)
def aad(a b:Fact):Fc prog 76 [.agg (aJ a),.agg (aJ b)] (.b (l4 a b)):=by
 refine ay func76 ntmps76 results76 ?_;exact go []<|gP (fun hg=>zx (xs:=[a.dn.num,a.dn.den]) (ys:=[b.dn.num,b.dn.den]) underlying35 LW LW (.cons zK underlying33 isAgg33 rfl (.cons zK underlying33 isAgg33 rfl (.nil _))) rfl rfl rfl rfl rfl rfl)<|gP (fun hg=>zx (xs:=[a.ratio.num,a.ratio.den]) (ys:=[b.ratio.num,b.ratio.den]) underlying35 LW LW (.cons zK underlying33 isAgg33 rfl (.cons zK underlying33 isAgg33 rfl (.nil _))) rfl rfl rfl rfl rfl rfl)<|gP (fun hg=>zx (xs:=[a.share.num,a.share.den]) (ys:=[b.share.num,b.share.den]) underlying35 LW LW (.cons zK underlying33 isAgg33 rfl (.cons zK underlying33 isAgg33 rfl (.nil _))) rfl rfl rfl rfl rfl rfl)<|gP (fun hg=>ah call114 rfl (agB _ _))<|gP (fun hg=>ah call115 rfl (agz _ _))<|af rfl (Sub.refl _)
def aa'(f:Fact)(n:Int)(h0:0<=n)(hn:n<13):Fc prog 128 [.agg (aJ f),.i n] (.agg (cK (jR f n))):=by
 refine Fc.jM func128 rfl ntmps128 rfl rfl rfl ?_;refine go [1,99999] ?_;refine U.bc (Le.fx 2 0 rfl rfl rfl rfl) ?_;refine go [99999]<|oP (ah call184 rfl (JL _))<|oP (ah call184 rfl (JL _))<|oP (ah call184 rfl (JL _))<|oP (ZI (r:=cK (jR f n)) underlying208 isAgg35 sizeOf35 rfl rfl h0 hn zQ (atz h0 hn))<|ord<|U.ret (?_);exact Rd.cA results128 isAgg35 sizeOf35 rfl rfl rfl (Sub.agg (.r (.r .nil)))
def SN(f:Fact)(n:Int)(h0:0<=n)(hn:n<13):Fc prog 89 [.agg (aJ f),.i n] (.b (eG f n)):=by
 refine ay func89 ntmps89 results89 ?_;refine go []<|br (fun h1=>?_) (fun h1=>?_)
 ·exact af rfl (Sub.bool (by(try simp only[bB]);unfold eG;exact iT h1))
 ·refine br (fun h2=>?_) (fun h2=>?_)
  ·exact af rfl (Sub.bool (by(try simp only[bB]);unfold eG;exact iF h1 (iT h2)))
  ·refine br (fun h3=>?_) (fun h3=>?_)
   ·exact af rfl (Sub.bool (by(try simp only[bB]);unfold eG;exact iF h1 (iF h2 (iT h3))))
   ·refine br (fun h4=>?_) (fun h4=>?_)
    ·exact af rfl (Sub.bool (by(try simp only[bB]);unfold eG;exact iF h1 (iF h2 (iF h3 (iT h4)))))
    ·refine br (fun h5=>?_) (fun h5=>?_)
     ·exact af rfl (Sub.bool (by(try simp only[bB]);unfold eG;exact iF h1 (iF h2 (iF h3 (iF h4 (iT h5))))))
     ·refine br (fun h6=>?_) (fun h6=>?_)
      ·exact af rfl (Sub.bool (by(try simp only[bB]);unfold eG;exact iF h1 (iF h2 (iF h3 (iF h4 (iF h5 (iT h6)))))))
      ·refine br (fun h7=>?_) (fun h7=>?_)
       ·exact af rfl (Sub.bool (by(try simp only[bB]);unfold eG;exact iF h1 (iF h2 (iF h3 (iF h4 (iF h5 (iF h6 (iT h7))))))))
       ·exact oP (ah call128 rfl (aa' _ _ zA zA))<|oP (zx (xs:=[(jR f n).num,(jR f n).den]) (ys:=[dJ.num,dJ.den]) underlying35 LW LW (.cons zK underlying33 isAgg33 rfl (.cons zK underlying33 isAgg33 rfl (.nil _))) rfl rfl rfl rfl rfl rfl)<|af rfl (Sub.bool (by(try simp only[bB]);unfold eG;exact iF h1 (iF h2 (iF h3 (iF h4 (iF h5 (iF h6 (iF h7 (GU _ _)))))))))
def akE(s:aa)(hs:s.length<=200):Fc prog 181 [.str s] (.b (r3 s)):=by
 refine ay func181 ntmps181 results181 ?_;have hc:=aeF s;refine go [2,3]<|oP (ah call233 rfl (ari _ _))<|U.vK<|Tx.q rfl trivial (aX rfl _)<|Tx.n rfl trivial (Pq call234 rfl (acC _ zO) _) (fun nb cF=>?_);dsimp only;exact Tx.q rfl trivial (aX rfl _)<|Tx.q rfl trivial (eP rfl rfl _)<|Tx.q rfl trivial (eP rfl rfl _)<|Tx.q rfl trivial (zu rfl _)<|Tx.q rfl trivial (zu rfl _)<|Tx.nil<|go [2,3]<|U.e_ [.p,.p,.p,.p,.p,.p,.p,.p,.p,.p,.p,.p,.p,.p,.p,.p,.p,.p,.p,.p,.p]<|.mv rfl rfl<|.P rfl (ah call86 rfl (BF _))<|.mv rfl rfl<|.gT rfl (.inl rfl) rfl rfl rfl (fun hg=>pk (fun _=>aX rfl _))<|.gT rfl (.inl rfl) rfl rfl rfl (fun hg=>pk (fun _=>apg underlying239 (bn rfl hg) (acB cF) _))<|.P rfl (iy rfl rfl)<|.mv rfl rfl<|.gT rfl (.inl rfl) rfl rfl rfl (fun hg=>pk (fun _=>aX rfl _))<|.gT rfl (.inl rfl) rfl rfl rfl (fun hg=>pk (fun _=>qi (bn rfl hg) rfl _))<|.P rfl (iy rfl rfl)<|.mv rfl rfl<|.gT rfl (.inl rfl) rfl rfl rfl (fun hg=>pk (fun _=>aX rfl _))<|.gT rfl (.inl rfl) rfl rfl rfl (fun hg=>pk (fun _=>EV (bn rfl hg) rfl _))<|.P rfl (iy rfl rfl)<|.mv rfl rfl<|.gT rfl (.inl rfl) rfl rfl rfl (fun hg=>pk (fun _=>aX rfl _))<|.gT rfl (.inl rfl) rfl rfl rfl (fun hg=>pk (fun _=>ah call235 (cG (bn rfl hg) (rfl)) (akG _ (by simp[jw]at hg;omega) (by simp[jw]at hg;omega)) _))<|.gT rfl (.inl rfl) rfl rfl rfl (fun hg=>pk (fun _=>aX rfl _))<|.gT rfl (.inl rfl) rfl rfl rfl (fun hg=>pk (fun _=>Pt (bn rfl hg) (bn rfl hg) _))<|.P rfl (iy rfl rfl)<|.ag rfl rfl<|.nil<|go [2,3]<|af rfl (Sub.bool (by exact akD cF))
end Go.T
namespace Go.T
open Go
def mr(q:aa)(pre:List dE)(sum:aa):List dE->Int
 |[]=>if decide (0<fX (val sum-val q))=true then 15 else 0
 |p::r=>if(!r3 p.fT)=true then 23 else if pre.any (fun y=>decide (y.fT=p.fT))=true then 5 else if decide (fL true false ⟨p.dc,[]⟩≠0)=true then fL true false ⟨p.dc,[]⟩else mr q (pre++[p]) (rE sum p.dc) r
def tZ(f:Fact):Int:=if decide (64<(f.fF.length:Int))=true then 4 else mr f.dc [] [] f.fF
def Zi{f:Fact}(h:decide (64<(f.fF.length:Int))=false):tZ f=mr f.dc [] [] f.fF:=by rw[tZ,aF (by rw[h];simp)]
def Zj{e:Int}{q sum:aa}{pre rest:List dE}{x:dE}(hp:e=mr q pre sum (x::rest))(h:(!r3 x.fT)=true):23=e:=by rw[hp,mr,aV h]
def Zk{e:Int}{q sum:aa}{pre rest:List dE}{x:dE}(hp:e=mr q pre sum (x::rest))(h:(!r3 x.fT)=false)(h2:pre.any (fun y=>decide (y.fT=x.fT))=true):5=e:=by rw[hp,mr,aF (by rw[h];simp),aV h2]
def Zl{e:Int}{q sum:aa}{pre rest:List dE}{x:dE}(hp:e=mr q pre sum (x::rest))(h:(!r3 x.fT)=false)(h2:pre.any (fun y=>decide (y.fT=x.fT))=false)(h3:decide (fL true false ⟨x.dc,[]⟩≠0)=true):fL true false ⟨x.dc,[]⟩=e:=by
 rw[hp,mr,aF (by rw[h];simp),aF (by rw[h2];simp),aV h3]
def Zm{e:Int}{q sum:aa}{pre rest:List dE}{x:dE}(hp:e=mr q pre sum (x::rest))(h:(!r3 x.fT)=false)(h2:pre.any (fun y=>decide (y.fT=x.fT))=false)(h3:decide (fL true false ⟨x.dc,[]⟩≠0)=false):e=mr q (pre++[x]) (rE sum x.dc) rest:=by
 rw[hp,mr,aF (by rw[h];simp),aF (by rw[h2];simp),aF (by rw[h3];simp)]
def oE:List aO->Int->Int
 |[],d=>d
 |x::r,d=>if decide (fL false false x≠0)=true then fL false false x else oE r d
def EB(o:cY):Bool:=(decide (o.other≠[])!=(!decide ([o.ratio.num,o.ratio.den]=[[],[]])))||(decide (o.other=[])&&!decide ([o.value.num,o.value.den]=[[],[]]))
def BV(i:aa)(o:cY)(d:Int):Int:=if(decide (o.other≠[])&&!isName o.other)=true then 23 else if decide (o.other=i)=true then 18 else oE [o.ratio,o.dn,o.value] (if EB o=true then 2 else d)
def qf(i:aa):List cY->Int
 |[]=>0
 |o::r=>BV i o (qf i r)
def rj(f:Fact):Int:=if decide ((f.opts.length:Int)=0)=true then 11 else if decide (8<(f.opts.length:Int))=true then 4 else qf f.dV f.opts
def aoc{f:Fact}(h:decide ((f.opts.length:Int)=0)=false)(h2:decide (8<(f.opts.length:Int))=false):rj f=qf f.dV f.opts:=by rw[rj,aF (by rw[h];simp),aF (by rw[h2];simp)]
def an2{e:Int}{i:aa}{o:cY}{r:List cY}(hp:e=qf i (o::r))(h:(decide (o.other≠[])&&!isName o.other)=true):23=e:=by rw[hp,qf,BV,aV h]
def an3{e:Int}{i:aa}{o:cY}{r:List cY}(hp:e=qf i (o::r))(h:(decide (o.other≠[])&&!isName o.other)=false)(h2:decide (o.other=i)=true):18=e:=by rw[hp,qf,BV,aF (by rw[h];simp),aV h2]
def an4{e:Int}{i:aa}{o:cY}{r:List cY}(hp:e=qf i (o::r))(h:(decide (o.other≠[])&&!isName o.other)=false)(h2:decide (o.other=i)=false):e=oE [o.ratio,o.dn,o.value] (if EB o=true then 2 else qf i r):=by
 rw[hp,qf,BV,aF (by rw[h];simp),aF (by rw[h2];simp)]
def H7{e d:Int}{x:aO}{r:List aO}(h:e=oE (x::r) d)(k:decide (fL false false x≠0)=true):fL false false x=e:=by rw[h,oE,aV k]
def tF{e d:Int}{x:aO}{r:List aO}(h:e=oE (x::r) d)(k:decide (fL false false x≠0)=false):e=oE r d:=by rw[h,oE,aF (by rw[k];simp)]
def H6{e d:Int}(h:e=oE [] d):e=d:=h
def YR{e d:Int}{b:Bool}(h:e=if b=true then 2 else d)(hb:b=false):e=d:=by rw[h,aF (by rw[hb];simp)]
def YS{e d:Int}{b:Bool}(h:e=if b=true then 2 else d)(hb:b=true):2=e:=by rw[h,aV hb]
def Zp{f:Fact}(h:decide (64<(f.fF.length:Int))=true):4=tZ f:=by rw[tZ,aV h]
def Zn{e:Int}{q sum:aa}{pre:List dE}(hp:e=mr q pre sum [])(h:decide (0<fX (val sum-val q))=true):15=e:=by rw[hp,mr,aV h]
def Zo{e:Int}{q sum:aa}{pre:List dE}(hp:e=mr q pre sum [])(h:decide (0<fX (val sum-val q))=false):0=e:=by rw[hp,mr,aF (by rw[h];simp)]
def aod{f:Fact}(h:decide ((f.opts.length:Int)=0)=true):11=rj f:=by rw[rj,aV h]
def aoe{f:Fact}(h:decide ((f.opts.length:Int)=0)=false)(h2:decide (8<(f.opts.length:Int))=true):4=rj f:=by rw[rj,aF (by rw[h];simp),aV h2]
structure lM(f:Fact):Prop where
 fF:∀p∈f.fF,p.fT.length<=200/\p.dc.length<=60
 dc:f.dc.length<=60
 l9:f.l9.length<=60
 mb:f.mb.length<=60
 dn:nn f.dn
 ratio:nn f.ratio
 share:nn f.share
 opts:∀o∈f.opts,nn o.ratio/\nn o.dn/\nn o.value
open Go.Proofs Go.Proofs.Tryz
structure adB(f:Fact)where
 pre:List dE
 rest:List dE
 sum:aa
 hx:f.fF=pre++rest
 hp:tZ f=mr f.dc pre sum rest
 A_:sum.length<=62*pre.length
 Dk:f.fF.length<=64
def Rv(f:Fact)(hf:lM f):Fc prog 126 [.agg (aJ f)] (.i (tZ f)):=by
 refine ay func126 ntmps126 results126 ?_;refine U.um 0 18 rfl rfl (fun hb=>?_);simp only[bB,aD]at hb;refine go [9]<|br (fun h1=>?_) (fun h1=>?_)
 ·exact af rfl (Sub.int (by exact Zp (by simpa using h1)))
 ·refine U.loop (ι:=adB f) (fun sx=>[(1,.box 0 0),(3,.str sx.sum),(12,ru f.fF),(13,.i f.fF.length),(14,.i sx.pre.length)]) (fun sx=>[(0,.cells (aJ f))]) (fun sx=>sx.rest.length) ⟨[],_,[],rfl,Zi (by simpa using h1),by simp,by have h9:=h1;simp at h9;omega⟩ ?_ ?_
  ·exact Le.mk rfl (.n 3 rfl rfl (.cons rfl (Sub.int zS) rfl (.s rfl rfl .nil))) (.cons rfl rfl .nil)
  ·rintro⟨pre,rest,sum,hx,hp,A_,Dk⟩;dsimp only;rcases lc hx with⟨rfl,hl⟩|⟨x,rest,rfl,hl⟩
   ·refine go [9]<|aH (by simp at hl|-;omega)<|go [9]<|oP (ah call186 rfl (CN sum f.dc zO (by have:=hf.dc;omega)))<|br (fun h2=>?_) (fun h2=>?_)
    ·exact af rfl (Sub.int (by exact Zn hp h2))
    ·exact af rfl (Sub.int (by exact Zo hp h2))
   ·have Bc:=hf.fF x (by rw[hx];simp);refine go [9]<|aM zQ<|ix zO (aK j0 hx rfl)<|oP (ah call181 rfl (akE x.fT Bc.1))<|br (fun h3=>?_) (fun h3=>?_)
    ·exact af rfl (Sub.int (by exact Zj hp h3))
    ·refine U.bc (Le.fx 5 1 rfl rfl rfl rfl) ?_;refine go []<|oP (pC underlying36 sizeOf85 rfl (l:=0) (h:=pre.length) (r:=pre.map j0) (.inl ⟨rfl,rfl⟩) (.inr ⟨_,_,rfl,rfl⟩) zO (by simp[hx]) (by rw[hx];simp))<|oP (ah call182 rfl (aer pre _ [.bj (j0 x)] rfl (fun y=>decide (y.fT=x.fT)) call183 (fun y _=>aqy y x)))<|br (fun h4=>?_) (fun h4=>?_)
     ·exact af rfl (Sub.int (by exact Zk hp h3 h4))
     ·refine oP (ah call120 rfl (CI _ _))<|oP (ah call184 rfl (JL _))<|oP (eO call175 rfl rfl (OM ⟨x.dc,[]⟩ true false ⟨Bc.2,by simp⟩))<|ord<|br (fun h5=>?_) (fun h5=>?_)
      ·exact af rfl (Sub.int (by exact Zl hp h3 h4 h5))
      ·exact oP (ah call185 rfl (aca sum x.dc zO zO))<|go [9]<|sd (ao zO)<|nx ⟨pre++[x],rest,rE sum x.dc,by simp[hx],Zm hp h3 h4 h5,by have:=ab9 sum x.dc;have:=Bc.2;simp;omega,Dk⟩ zS (Le.mk rfl (.n 4 rfl rfl (.cons rfl (Sub.int zS) rfl .nil)) (.cons rfl rfl .nil))
structure adz(f:Fact)where
 pre:List cY
 rest:List cY
 hx:f.opts=pre++rest
 hp:rj f=qf f.dV rest
structure adA(f:Fact)(pre rest:List cY)(x:cY)where
 au:List aO
 az:List aO
 aN:[x.ratio,x.dn,x.value]=au++az
 hq:rj f=oE az (if EB x=true then 2 else qf f.dV rest)
def Ru(f:Fact)(hf:lM f):Fc prog 127 [.agg (aJ f)] (.i (rj f)):=by
 refine ay func127 ntmps127 results127 ?_;refine U.um 0 19 rfl rfl (fun hb=>?_);simp only[bB,aD]at hb;refine go []<|br (fun h1=>?_) (fun h1=>?_)
 ·exact af rfl (Sub.int (by exact aod (by simpa using h1)))
 ·refine br (fun h2=>?_) (fun h2=>?_)
  ·exact af rfl (Sub.int (by exact aoe (by simpa using h1) (by simpa using h2)))
  ·refine U.loop (ι:=adz f) (fun sx=>[(1,.box 0 0),(17,qk f.opts),(18,.i f.opts.length),(19,.i sx.pre.length)]) (fun sx=>[(0,.cells (aJ f))]) (fun sx=>sx.rest.length) ⟨[],_,rfl,aoc (by simpa using h1) (by simpa using h2)⟩ ?_ ?_
   ·exact Le.mk rfl (.n 2 rfl rfl (.cons rfl (Sub.int zS) rfl (.s rfl rfl .nil))) (.cons rfl rfl .nil)
   ·rintro⟨pre,rest,hx,hp⟩;dsimp only;rcases lc hx with⟨rfl,hl⟩|⟨x,rest,rfl,hl⟩
    ·exact go []<|aH (by simp at hl|-;omega)<|go []<|af rfl (Sub.int (by rw[hp];rfl))
    ·have jf:=hf.opts x (by rw[hx];simp);refine go []<|aM zQ<|ix zO (aK mF hx rfl)<|gP (fun hg=>ah call86 rfl (BF _))<|br (fun h3=>?_) (fun h3=>?_)
     ·exact af rfl (Sub.int (by exact an2 hp h3))
     ·refine br (fun h4=>?_) (fun h4=>?_)
      ·exact af rfl (Sub.int (by exact an3 hp h3 h4))
      ·refine oP (bK (n:=3) (rows:=[cK x.ratio,cK x.dn,cK x.value]) underlying116 sizeOf35 rfl rfl rfl zeroValue35 rfl rfl rfl rfl rfl rfl rfl)<|U.loop (ι:=adA f pre rest x) (fun sx=>[(1,.box 0 0),(4,.box 1 0),(17,qk f.opts),(18,.i f.opts.length),(19,.i pre.length),(43,.snap 2 true ([x.ratio,x.dn,x.value].map cK)),(44,.i 3),(45,.i sx.au.length)]) (fun sx=>[(0,.cells (aJ f)),(1,.cells (mF x))]) (fun sx=>sx.az.length) ⟨[],_,rfl,an4 hp h3 h4⟩ ?_ ?_
       ·exact Le.mk rfl (.n 8 rfl rfl .nil) (.cons rfl rfl (.cons rfl rfl .nil))
       ·rintro⟨au,az,aN,hq⟩;dsimp only;have bM:=aT List.length aN;simp only[bl,bD,hG]at bM;rcases az with _|⟨x2,az⟩
        ·refine go []<|aH (by simp at bM|-;omega)<|go []<|oP (oS (xs:=[x.ratio.num,x.ratio.den]) (ys:=[[],[]]) underlying35 LW LW (.cons zK underlying33 isAgg33 rfl (.cons zK underlying33 isAgg33 rfl (.nil _))) rfl rfl rfl rfl rfl rfl)<|gP (fun hg=>oS (xs:=[x.value.num,x.value.den]) (ys:=[[],[]]) underlying35 LW LW (.cons zK underlying33 isAgg33 rfl (.cons zK underlying33 isAgg33 rfl (.nil _))) rfl rfl rfl rfl rfl rfl)<|ord<|br (fun h5=>?_) (fun h5=>?_)
         ·exact af rfl (Sub.int (by exact YS (H6 hq) h5))
         ·exact go []<|sd (ao zO)<|nx ⟨pre++[x],rest,by simp[hx],YR (H6 hq) h5⟩ zS (Le.mk rfl (.n 3 rfl rfl (.cons rfl (Sub.int zS) rfl .nil)) (.cons rfl rfl .nil))
        ·simp only[bD]at bM;have k9:=Ol aN;refine go []<|aM zQ<|ix zO (aK cK aN rfl)<|oP (ah call120 rfl (CI _ _))<|oP (eO call175 rfl rfl (OM x2 false false (by rcases k9 with rfl|rfl|rfl;exact jf.1;exact jf.2.1;exact jf.2.2)))<|ord<|br (fun h6=>?_) (fun h6=>?_)
         ·exact af rfl (Sub.int (by exact H7 hq h6))
         ·exact sd (ao zO)<|nx ⟨au++[x2],az,by simp[aN],tF hq h6⟩ zS (Le.mk rfl (.n 7 rfl rfl (.cons rfl (Sub.int zS) rfl .nil)) (.cons rfl rfl (.cons rfl rfl .nil)))
end Go.T
namespace Go.T
open Go
variable[bX]
@[reducible] def dX(s:aa):Prop:=s.length<=aD
theorem TJ(k:aa):∀(es:List MapEntry)(ks:List aa)(i:Nat),es.map (·.key)=ks.map Fu->Instr.findNow .string (Fu k) es i=some ((kX k ks i).map fun j=>(j,(es[j-i]?.map (·.val)).getD undef))
 |[],[],i,_=>by simp[Instr.findNow,kX]
 |[],_::_,i,h=>by simp at h
 |_::_,[],i,h=>by simp at h
 |e::es,x::ks,i,h=>by
  simp only[cP,l_]at h;have ih:=TJ k es ks (i+1) h.2;simp only[Instr.findNow,h.1,Instr.sameNow,aaB];by_cases hx:k=x
  ·subst hx;simp[kX]
  ·simp only[kX,hx,pb,BL];rw[ih];cases hf:kX k ks (i+1)with
   |none=>rfl
   |some j=>
    have:=LO hf;simp only[jk];rw[show j-i=(j-(i+1))+1 by omega,wK]
def akU{P:Program}{kt:TypeId}(hu:P.underlying kt=some .string):lC P kt D.str Fu dX:=by
 refine⟨?_,?_,?_,?_,?_⟩
 ·intro w O ρ k v h;simp only[V]at h;exact h
 ·intro w O ρ k h;simp only[V];exact⟨trivial,h⟩
 ·intro b k w _;show(Instr.checkKey b (9999+1) kt _).run P w=_;rw[Instr.checkKey];simp[bW hu]
 ·intro k es ks w MO _ _;have:=TJ k es ks 0 MO;simp only[Nat.sub_zero]at this;simp[Instr.findKey,bW hu,this]
 ·intro k w;simp[Instr.keyThatStays,Instr.sameBits,aaB]
end Go.T
namespace Go.T
open Go
variable[bX]
theorem TH(ik:IntKind)(k:Int):∀(es:List MapEntry)(ks:List Int)(i:Nat),es.map (·.key)=ks.map (Value.int ik)->Instr.findNow (.int ik) (.int ik k) es i=some ((kX k ks i).map fun j=>(j,(es[j-i]?.map (·.val)).getD undef))
 |[],[],i,_=>by simp[Instr.findNow,kX]
 |[],_::_,i,h=>by simp at h
 |_::_,[],i,h=>by simp at h
 |e::es,x::ks,i,h=>by
  simp only[cP,l_]at h;have ih:=TH ik k es ks (i+1) h.2;simp only[Instr.findNow,h.1,Instr.sameNow];by_cases hx:k=x
  ·subst hx;simp[kX]
  ·have hb:(k==x)=false:=by simpa using hx
   simp only[kX,hx,pb,hb];rw[ih];cases hf:kX k ks (i+1)with
   |none=>rfl
   |some j=>
    have:=LO hf;simp only[jk];rw[show j-i=(j-(i+1))+1 by omega,wK];simp
def akT{P:Program}{kt:TypeId}{ik:IntKind}(hu:P.underlying kt=some (.int ik)):lC P kt (fun n:Int=>D.raw (.int ik n)) (Value.int ik) (fun _=>True):=by
 refine⟨?_,?_,?_,?_,?_⟩
 ·intro w O ρ k v h;simp only[V]at h;exact⟨h,trivial⟩
 ·intro w O ρ k _;simp only[V]
 ·intro b k w _;show(Instr.checkKey b (9999+1) kt _).run P w=_;rw[Instr.checkKey];simp[bW hu]
 ·intro k es ks w MO _ _;have:=TH ik k es ks 0 MO;simp only[Nat.sub_zero]at this;simp[Instr.findKey,bW hu,this]
 ·intro k w;simp[Instr.keyThatStays,Instr.sameBits]
end Go.T
namespace Go.T
open Go
variable[bX]
section
variable{P:Program} {env:Env} {dst:Option Tmp} {ty:TypeId} {pos:String} {ar:Array Edge} {g:Option (Nat×Bool)}
def apz{t kt et:TypeId}{x:Operand}{Z:ae}(fb:Nat)(hu:P.underlying t=some (.map kt et))(hx:env.op x=some (.raw (.map none)))(hid:Z.get fb=none):
  aq P ⟨dst,.range t x,ty,pos,ar,g⟩ env Z (.box fb 0) ((fb,.mn)::Z):=
 .step fun O ρ a w ai hv=>by
  have bZ:=hv x (by simp[Op.operands]) _ hx;simp only[V]at bZ;have hr:=run_range_nilMap (P:=P) w t kt et hu;refine⟨.pointer (some ⟨w.heap.size,0,none⟩),_,T.cn ρ fb ⟨w.heap.size,0,0⟩,.inl ?_,Tr.born ai hid (.mapIter none 0 #[] 0) rfl (fun i x h _=>h) (fun i h=>h) ?_,?_⟩
  ·simp only[execOp,bZ];rw[Sem.run_bind,hr];rfl
  ·intro hk;show({w with heap:=w.heap.push (.mapIter none 0 #[] 0)}:World).heap[w.heap.size]?=_;simp
  ·simp only[V];exact⟨⟨w.heap.size,0,0⟩,by simp[T.cn],rfl⟩
def apv{x:Operand}{fb:Nat}{Z:ae}(hx:env.op x=some (.box fb 0))(hi:Z.get fb=some .mn):
  aq P ⟨dst,.next x false,ty,pos,ar,g⟩ env Z (.a_ [.b false]) Z:=
 .val fun O ρ a w ai hv=>by
  have bZ:=hv x (by simp[Op.operands]) _ hx;simp only[V]at bZ;obtain⟨r,rR,e1⟩:=bZ;obtain⟨r',pn,_,hit⟩:=ai.own fb _ hi rfl;rw[rR]at pn;cases pn;have Dv:w.heap[r.b]?=some (.mapIter none 0 #[] 0):=hit;have hr:(Instr.next (.pointer (some ⟨r.b,0,none⟩)) false ty).run P w=.ok (.tuple #[.bool false]) w:=by
   simp only[Instr.next,getObj,Sem.run_bind,Sem.run,Dv,Result.andThen];rfl
  refine⟨.tuple #[.bool false],?_,by simp[V,Vs,D.b]⟩;simp only[execOp,e1];rw[Sem.run_bind,hr];rfl
end
section
variable{κ β:Type} [DecidableEq κ] {P:Program} {kt:TypeId} {kD:κ->D} {kV:κ->Value} {it:κ->Prop} {vD:β->D}
variable{env:Env} {dst:Option Tmp} {ty:TypeId} {pos:String} {ar:Array Edge} {g:Option (Nat×Bool)}
def ZL(hK:lC P kt kD kV it){t et:TypeId}{x y:Operand}{m:List (κ×β)}{k:κ}{d:β}{kd md:D}{Z:ae}{zv:Value}(hu:P.underlying t=some (.map kt et))(hz:∀w,(zeroValue et).run P w=.ok zv w)(u0:∀(w:World) O ρ,V w O ρ (vD d) zv)
  (hx:env.op x=some md)(M6:md=w6 kD vD m)(hy:env.op y=some kd)(rQ:kd=kD k):
  aq P ⟨dst,.lookup t x y true,ty,pos,ar,g⟩ env Z (.a_ [vD (ei d m k),.b (j4 m k)]) Z:=
 .val fun O ρ a w ai hv=>by
  subst rQ;subst M6;obtain⟨b,e1,rP⟩:=FM.1 (hv x (by simp[Op.operands]) _ hx);have dR:=hK.val (hv y (by simp[Op.operands]) _ hy);obtain⟨es,h4,h5,h6⟩:=GC hK rP;have rO:=fun b=>hK.check b k w dR.2;have jI:=hK.find k es.toList (m.map (·.1)) w h5.keys h6 dR.2;rcases C8 d k m 0 with⟨g1,g2,g3,_⟩|⟨j,gj,g1,g2,g3,_⟩
  ·refine⟨.tuple #[zv,.bool (j4 m k)],?_,by simp only[V,Vs];exact⟨_,rfl,_,_,rfl,by rw[g3];exact u0 _ _ _,_,_,rfl,rfl,rfl⟩⟩;rw[g1]at jI;rw[g2];simp[execOp,e1,dR.1,Instr.lookup,bW hu,MapKept.run_getObj_map h4,rO,jI,hz]
  ·obtain⟨e,k1,k2,k3,k4⟩:=h5.at_ j k _ g2;refine⟨.tuple #[e.val,.bool (j4 m k)],?_,by simp only[V,Vs];exact⟨_,rfl,_,_,rfl,V.mono (Kept.refl _ _) (Ck ρ) _ _ k4,_,_,rfl,rfl,rfl⟩⟩;rw[g1]at jI;simp only[jk,mD,jW,k1,l8]at jI;rw[g3];simp[execOp,e1,dR.1,Instr.lookup,bW hu,MapKept.run_getObj_map h4,rO,jI]
end
def bf(listed:Array Bool)(i:Nat):Bool:=listed.getD i false
def fU{listed:Array Bool}{i j:Nat}(hi:i<listed.size):bf (listed.setIfInBounds i true) j=if i=j then true else bf listed j:=by
 unfold bf;rw[ja,ja,pG];split
 ·simp[hi]
 ·rfl
def Jg{ops:Array Oper}{listed:Array Bool}{i:Nat}(hs:listed.size=ops.size)(h:i∈Region.ready .any ops listed):i<ops.size/\bf listed i=false/\∀o,ops[i]?=some o->∀e∈o.after,Region.binds .any e=true->bf listed e.on=true:=by
 unfold Region.ready at h;rw[eX,px,bd]at h;obtain⟨h1,h2,h3⟩:=h;refine⟨h1,?_,fun o ho e he hb=>?_⟩
 ·unfold bf;have hi:i<listed.size:=by omega
  rw[ja,dW hi]at h2|-;simpa using h2
 ·rw[ho]at h3;simp only[jk,l8]at h3;have:=Iv.1 h3 e he;rw[hb]at this;simpa[bf]using this
def CG(ops:Array Oper):Bool:=(List.range ops.size).all fun i=>((ops[i]?).map fun o=>o.after.all fun e=>!Region.binds .any e||Nat.blt e.on i).getD true
def ZS{ops:Array Oper}{listed:Array Bool}(hs:listed.size=ops.size)(hb:CG ops=true)(h:Region.ready .any ops listed=[]):∀i,i<ops.size->bf listed i=true:=by
 intro i;induction i using Nat.strongRecOn with
 |_ i ih=>
  intro hi;cases e:bf listed i with
  |true=>rfl
  |false=>
   exfalso;have:i∈Region.ready .any ops listed:=by
    unfold Region.ready;rw[eX,px,bd];have kG:i<listed.size:=by omega
    refine⟨hi,?_,?_⟩
    ·unfold bf at e;rw[ja,dW kG]at e|-;simpa using e
    ·rw[dW hi];simp only[jk,l8];rw[Iv];intro x hx;have h1:=de.1 hb i (px.2 hi);rw[dW hi]at h1;simp only[jk,l8]at h1;have h2:=Iv.1 h1 x hx;cases fH:Region.binds .any x with
     |false=>simp
     |true=>
      rw[fH]at h2;have h3:x.on<i:=by simpa[jE]using h2
      have h4:=ih x.on h3 zO;unfold bf at h4;simp[h4]
   rw[h]at this;cases this
def xH(listed:Array Bool)(n:Nat):Nat:=(List.range n).countP fun i=>!bf listed i
def aaZ{listed:Array Bool}{n i:Nat}(hi:i<n)(h:bf listed i=false):0<xH listed n:=List.countP_pos_iff.2 ⟨i,px.2 hi,by simp[h]⟩
def aa0{listed:Array Bool}{n i:Nat}(hi:i<n)(hs:n=listed.size)(h:bf listed i=false):xH (listed.setIfInBounds i true) n+1<=xH listed n:=by
 unfold xH;have key:∀l:List Nat,l.Nodup->i∈l->(l.countP fun j=>!bf (listed.setIfInBounds i true) j)+1<=l.countP fun j=>!bf listed j:=by
  intro l;induction l with
  |nil=>intro _ hm;cases hm
  |cons a l ih=>
   intro hn hm;rw[kr]at hn;simp only[List.countP_cons];by_cases e:i=a
   ·subst e;have qR:(l.countP fun j=>!bf (listed.setIfInBounds i true) j)=l.countP fun j=>!bf listed j:=by
     apply List.countP_congr;intro x hx;rw[fU zO,aF (by rintro rfl;exact hn.1 hx)]
    rw[qR,fU zO,aV rfl,h];simp
   ·have DA:i∈l:=(cr.1 hm).resolve_left e;have:=ih hn.2 DA;rw[fU zO,aF e];omega
 exact key _ Jv (px.2 hi)
section
variable{P:Program} {F:Fr} {ops:Array Oper} {K:Env->ae->Prop}
def jU.bc{eB:Nat}{listed:Array Bool}{env aY:Env}{Z aj:ae}(h:Le F env Z aY aj)(k:jU P F ops K eB listed aY aj):jU P F ops K eB listed env Z:=⟨fun C Q hQ a w hs=>k.out C Q hQ a w (h.out C a w hs)⟩
def JX(P:Program)(F:Fr)(ops:Array Oper)(I:Array Bool->Env->ae->Prop)(i:Nat)(o:Oper):Prop:=
 ∀listed env Z,listed.size=ops.size->I listed env Z->bf listed i=false->(∀e∈o.after,Region.binds .any e=true->bf listed e.on=true)->
  ∃d aj gb dG,eF F.N o.dst=true/\On ops env o/\aq P o env Z d aj/\Le F (env.put o.dst d) aj gb dG/\I (listed.setIfInBounds i true) gb dG
def xT(P:Program)(F:Fr)(ops:Array Oper)(I:Array Bool->Env->ae->Prop):Nat->List Oper->Prop
 |_,[]=>True
 |i,o::l=>JX P F ops I i o/\xT P F ops I (i+1) l
theorem xT.get{I:Array Bool->Env->ae->Prop}:∀{l:List Oper}{k i:Nat}{o:Oper},xT P F ops I k l->l[i]?=some o->JX P F ops I (k+i) o
 |[],k,i,o,_,h=>by simp at h
 |x::l,k,0,o,hs,h=>by simp at h;subst h;exact hs.1
 |x::l,k,i+1,o,hs,h=>by
  have:=xT.get hs.2 (i:=i) (o:=o) (by simpa using h);rwa[Nat.add_right_comm,l6]at this
def jU.inv{I:Array Bool->Env->ae->Prop}(hb:CG ops=true)(uP:∀listed env Z,listed.size=ops.size->(∀i,i<ops.size->bf listed i=true)->I listed env Z->K env Z)
  (aU:xT P F ops I 0 ops.toList):∀(eB:Nat)(listed:Array Bool)(env:Env)(Z:ae),listed.size=ops.size->xH listed ops.size<=eB->I listed env Z->jU P F ops K eB listed env Z:=by
 intro eB;induction eB with
 |zero=>
  intro listed env Z hs hf hI;have eI:∀i,i<ops.size->bf listed i=true:=fun i hi=>by
   cases e:bf listed i with
   |true=>rfl
   |false=>have:=aaZ hi e;omega
  refine jU.nil ?_ (uP listed env Z hs eI hI);rw[List.eq_nil_iff_forall_not_mem];intro i hi;have:=Jg hs hi;rw[eI i this.1]at this;cases this.2.1
 |succ eB ih=>
  intro listed env Z hs hf hI;refine⟨fun C Q hQ a w DL=>⟨fun hr=>hQ a w env Z (uP listed env Z hs (ZS hs hb hr) hI) DL,fun i hi=>?_⟩⟩;have hl:Region.ready .any ops listed≠[]:=fun e=>by rw[e]at hi;cases hi
  have hT:jU P F ops K (eB+1) listed env Z:=jU.step rfl hl (fun i hi=>by
   obtain⟨h1,h2,h3⟩:=Jg hs hi;have ho:ops[i]?=some ops[i]:=dW h1;have h4:JX P F ops I (0+i) ops[i]:=xT.get aU (by simpa using ho);rw[mD]at h4;obtain⟨d,aj,gb,dG,q1,q2,q3,q4,q5⟩:=h4 listed env Z hs hI h2 (h3 _ ho);exact FG.mk' ho q1 q2 q3 (.bc q4 (ih _ _ _ (by simpa using hs) (by have:=aa0 h1 hs.symm h2;omega) q5)))
  exact(hT.out C Q hQ a w DL).2 i hi
def U.ZY{ι:Type}{A:ι->Prop}{gb:ι->Env}{dG:ι->ae}{env:Env}{Z:ae}{Q:Exit->Env->ae->Prop}{cs:List Code}{id:Nat}{l:List Oper}{c:Code}(I:Array Bool->Env->ae->Prop)(hm:P.follows .mixedOrders=true)(hb:CG l.toArray=true)
  (h0:I (Array.replicate l.length false) env Z)(aU:xT P F l.toArray I 0 l)(uP:∀listed e o,listed.size=l.length->(∀i,i<l.length->bf listed i=true)->I listed e o->∃i,A i/\Le F e o (gb i) (dG i))
  (k:∀i,A i->U P F (c::cs) Q (gb i) (dG i)):U P F (.region id l.toArray true::c::cs) Q env Z:=⟨⟨fun C a w hs=>by
 refine wpIn_region_any hm ?_;have hT:jU P F l.toArray (fun e o=>∃i,A i/\Le F e o (gb i) (dG i)) l.length (Array.replicate l.length false) env Z:=
  jU.inv (I:=I) hb (by simpa using uP) (by simpa using aU) l.length _ env Z zS (by
   have:xH (Array.replicate l.length false) l.toArray.size<=(List.range l.toArray.size).length:=List.countP_le_length;simpa using this) h0
 have:=hT.out C (fun e a' w'=>∃aY aj,kS (pK P F (c::cs) Q) Q e aY aj/\St F C aY aj a' w') (fun a w aY aj hk hs=>by
  obtain⟨i,hA,fh⟩:=hk;exact⟨gb i,dG i,(k i hA).out,fh.out C a w hs⟩) a _ hs.drew
 simpa using this⟩⟩
end
end Go.T
namespace Go.T
open Go
abbrev oa:=Option (Bool×Bool)
abbrev i_:=List (Int×oa)
@[reducible] def dN(w:aa)(c:Int)(h:Nat->Bool)(num:D)(code:Bool):List D:=
 [.str w,.i c,.b (h 0),.b (h 1),.b (h 2),.b (h 3),.b (h 4),.b (h 5),.b (h 6),.b (h 7),.b (h 8),.b (h 9),.b (h 10),.b (h 11),.b (h 12),num,.b code]
def E8(h:Nat->Bool)(i:Nat):Nat->Bool:=fun j=>decide (j=i)||h j
def Rq{i:Int}(h0:0<=i)(h1:i<13):i=0\/i=1\/i=2\/i=3\/i=4\/i=5\/i=6\/i=7\/i=8\/i=9\/i=10\/i=11\/i=12:=by omega
def Lp{w:aa}{c:Int}{h:Nat->Bool}{num:D}{code:Bool}{i:Int}(h0:0<=i)(h1:i<13):(dN w c h num code).set (2+i.toNat) (.raw (.bool true))=dN w c (E8 h i.toNat) num code:=by
 rcases Rq h0 h1 with rfl|rfl|rfl|rfl|rfl|rfl|rfl|rfl|rfl|rfl|rfl|rfl|rfl<;>rfl
def agn{w:aa}{c:Int}{h:Nat->Bool}{num:D}{code:Bool}{i:Int}(h0:0<=i)(h1:i<13):(dN w c h num code)[2+i.toNat]?=some (.b (h i.toNat)):=by
 rcases Rq h0 h1 with rfl|rfl|rfl|rfl|rfl|rfl|rfl|rfl|rfl|rfl|rfl|rfl|rfl<;>rfl
def Gx{w:aa}{c:Int}{h h':Nat->Bool}{num:D}{code:Bool}(e:∀j,j<13->h j=h' j):dN w c h num code=dN w c h' num code:=by
 simp only[dN,e 0 zO,e 1 zO,e 2 zO,e 3 zO,e 4 zO,e 5 zO,e 6 zO,e 7 zO,e 8 zO,e 9 zO,e 10 zO,e 11 zO,e 12 zO]
def ck(m:i_)(more:List Int)(j:Nat):Bool:=m.any (fun p=>decide (p.1=(j:Int)))||more.any (fun n=>decide (n=(j:Int)))
def AT(m:i_)(seen:List Nat)(j:Nat):Bool:=seen.any fun i=>decide ((m[i]?.map (·.1))=some (j:Int))
def aiY{m:i_}{seen:List Nat}{i:Nat}{k:Int}{v:oa}(h:m[i]?=some (k,v))(hk:0<=k)(j:Nat):AT m (seen++[i]) j=E8 (AT m seen) k.toNat j:=by
 unfold AT E8;rw[pH];simp only[pJ,y0,tC,h,jk];rw[Bool.or_comm]
 congr 1
 rw[ou];simp only[cH];omega
def aiX{m:i_}{seen:List Nat}(eI:∀j,j<m.length->j∈seen)(j:Nat):AT m seen j=m.any (fun p=>decide (p.1=(j:Int))):=by
 unfold AT;rw[mE,j_,j_];constructor
 ·rintro⟨i,hi,h⟩;have h:=aG h;obtain⟨p,h1,h2⟩:=gx.1 h;exact⟨p,dj h1,by simpa using h2⟩
 ·rintro⟨p,hp,h⟩;obtain⟨i,hi⟩:=mw hp;exact⟨i,eI i (cI.1 hi).1,by rw[hi];simpa using h⟩
def AS(h:Nat->Bool)(pre:List Int)(j:Nat):Bool:=h j||pre.any fun n=>decide (n=(j:Int))
def UK{h:Nat->Bool}{pre:List Int}{n:Int}(hn:0<=n)(j:Nat):AS h (pre++[n]) j=E8 (AS h pre) n.toNat j:=by
 unfold AS E8;rw[pH];simp only[pJ,y0,tC];have:decide (n=(j:Int))=decide (j=n.toNat):=by rw[ou];omega
 rw[this,<-Bool.or_assoc,Bool.or_comm]
def Jw{seen:List Nat}{j:Nat}(hn:seen.Nodup)(hj:j∉seen):(seen++[j]).Nodup:=by
 rw[wG];exact⟨hn,by simp,by simp;intro a ha e;subst e;exact hj ha⟩
def amf{m:i_}{seen:List Nat}{j:Nat}{kv:Int×oa}(h:m[j]?=some kv)(bA:∀j∈seen,j<m.length):∀i∈seen++[j],i<m.length:=by
 intro i hi;rcases cM.1 hi with hi|hi
 ·exact bA i hi
 ·simp at hi;subst hi;exact(cI.1 h).1
open Go.Proofs Go.Proofs.Tryz
def e6:lC prog 3 (fun n:Int=>D.raw (.int .i64 n)) (Value.int .i64) (fun _=>True):=akT underlying3
@[reducible] def bS:oa->D
 |none=>.raw .nilFunc
 |some (a,b)=>.fn (.func 175) [] [.bj [.b a],.bj [.b b]]
def NV(p:oa):(bS p).bw=true:=by
 cases p with
 |none=>rfl
 |some q=>rfl
@[reducible] def ek(m:i_):D:=w6 (fun n:Int=>D.raw (.int .i64 n)) bS m
structure ak0(w:aa)(c:Int)(m:i_)(more:List Int)where
 seen:List Nat
 fD:seen.Nodup
 bA:∀j∈seen,j<m.length
structure ak1(w:aa)(c:Int)(m:i_)(more:List Int)where
 pre:List Int
 rest:List Int
 hx:more=pre++rest
def qW(w:aa)(c:Int)(m:i_)(more:List Int)(A3:∀n∈more,0<=n/\n<13)(Vm:more.length<=100)(hm:∀p∈m,0<=p.1/\p.1<13):Fc prog 121 [.str w,.i c,(ek m),lZ more] (.agg (dN w c (ck m more) (ek m) false)):=by
 refine Fc.jM func121 rfl ntmps121 rfl rfl rfl ?_;refine U.seq<|rg<|.W rfl (jC 0 zeroValue121 rfl)<|.nil<|U.seq<|rg<|.mv rfl rfl<|.mv rfl rfl<|.mv rfl rfl<|.P rfl (rn (pl:=#[(0,1),(1,1),(2,13),(15,1),(16,1)]) underlying121 zeroValue121 (fun w=>by kernel_rfl) rfl rfl)<|.W rfl (jC 1 zeroValue121 rfl)<|.W rfl (kP sizeOf121 rfl rfl rfl rfl rfl rfl)<|.nil<|U.seq<|U.seq<|rg<|.mv rfl rfl<|.W rfl (apy 2 underlying119 rfl rfl)<|.nil<|U.block<|U.loop (ι:=ak0 w c m more) (fun sx=>[(0,.str w),(1,.i c),(2,(ek m)),(3,lZ more),(8,.box 0 0),(9,.box 1 0),(18,.box 2 0)]) (fun sx=>[(2,.mj (m.map fun p=>(fun n:Int=>D.raw (.int .i64 n)) p.1) (m.map fun p=>bS p.2) sx.seen),(1,.cells (dN w c (AT m sx.seen) (ek m) false)),(0,.cells [.str [],.raw (.int .i64 0),.b false,.b false,.b false,.b false,.b false,.b false,.b false,.b false,.b false,.b false,.b false,.b false,.b false,.raw (.map none),.b false])]) (fun sx=>zR m.length sx.seen) ⟨[],Fx,by simp⟩ ?_ ?_
 ·exact Le.mk rfl (.n 7 rfl rfl .nil) (.cons rfl rfl (.cons rfl rfl (.cons rfl rfl .nil)))
 ·rintro⟨seen,fD,bA⟩;try dsimp only
  refine U.seq (U.vK ?_);refine Tx.n rfl trivial (apu e6 (vD:=bS) rfl rfl) (fun nb cF=>?_);rcases nb with _|⟨nj,nk,nv⟩
  ·dsimp only[tS,vk,vj];refine Tx.q rfl trivial (eP rfl rfl _)<|Tx.nil<|U.seq<|U.c6 rfl rfl<|U.exit (dz (du ?_));refine U.seq<|U.seq<|rg<|.mv rfl rfl<|.P rfl (cv underlying25 rfl)<|.mv rfl rfl<|.nil<|U.block<|U.loop (ι:=ak1 w c m more) (fun sx=>[(3,lZ more),(8,.box 0 0),(9,.box 1 0),(26,lZ more),(27,.i more.length),(28,.i sx.pre.length)]) (fun sx=>[(1,.cells (dN w c (AS (fun j=>m.any fun p=>decide (p.1=(j:Int))) sx.pre) (ek m) false)),(0,.cells [.str [],.raw (.int .i64 0),.b false,.b false,.b false,.b false,.b false,.b false,.b false,.b false,.b false,.b false,.b false,.b false,.b false,.raw (.map none),.b false])]) (fun sx=>sx.rest.length) ⟨[],_,rfl⟩ ?_ ?_
   ·exact Le.mk rfl (.n 4 rfl rfl (.cons rfl (Sub.int zS) rfl (.s rfl rfl .nil))) (.eq rfl (by(congr 1;exact Gx fun j _=>(aiX cF j).trans (by simp[AS]))) rfl (.cons rfl rfl .nil))
   ·rintro⟨pre,rest,hx⟩;try dsimp only
    rcases lc hx with⟨rfl,hl⟩|⟨x,rest,rfl,hl⟩
    ·obtain rfl:more=pre:=by simpa using hx
     refine U.seq<|rg<|.P rfl (bp rfl rfl)<|.nil<|U.seq<|U.c6 rfl zS<|U.exit (dz (du ?_));refine U.seq<|rg<|.R rfl (B8 isAgg121 sizeOf121 rfl rfl rfl)<|.W rfl (kP sizeOf121 rfl rfl rfl rfl rfl rfl)<|.nil<|U.ret (?_);exact Rd.cA results121 isAgg121 sizeOf121 rfl rfl rfl (Sub.agg (.r (.cons (Sub.refl _) (.r (.cons (Sub.refl _) (.r (.cons (Sub.refl _) (.r (.cons (Sub.refl _) (.r (.cons (Sub.refl _) (.r (.cons (Sub.refl _) (.r (.cons (Sub.refl _) (.r (.cons (Sub.refl _) (.r .nil))))))))))))))))))
    ·have qS:=A3 x (by rw[hx];simp);refine U.seq<|rg<|.P rfl (bp rfl rfl)<|.nil<|U.seq<|U.ew rfl zQ<|U.skip<|U.seq<|U.block<|U.seq<|rg<|.P rfl (eC underlying25 sizeOf3 rfl rfl zO (aK (fun n=>[D.i n]) hx rfl))<|.P rfl (bE isAgg3 rfl)<|.ag rfl rfl<|.nil<|rg<|.mv rfl rfl<|.P rfl (iN (n:=12) 118 2 underlying121 sizeOf118 rfl rfl)<|.P rfl (sl (o2:=2+x.toNat) underlying118 sizeOf4 rfl rfl qS.1 zO zO)<|.W rfl (sq sizeOf4 rfl rfl rfl rfl zQ)<|.nil<|U.nil (bR ?_);refine rg<|.P rfl (bx rfl rfl (ao zO))<|.mv rfl rfl<|.nil<|U.nil (cz ?_);exact⟨⟨pre++[x],rest,by simp[hx]⟩,by simp,Le.mk rfl (.n 5 rfl rfl (.cons rfl (Sub.int zS) rfl .nil)) (.eq rfl (by(congr 1;rw[Lp qS.1 qS.2];exact Gx fun j _=>(UK qS.1 j).symm)) rfl (.cons rfl rfl .nil))⟩
  ·dsimp only[tS,vk,vj];refine Tx.q rfl trivial (eP rfl rfl _)<|Tx.nil<|U.seq<|U.ew rfl rfl<|U.skip<|U.block<|U.seq<|rg<|.R rfl (ape e6 (vD:=bS) rfl rfl (qB cF))<|.P rfl (eP rfl rfl)<|.ag rfl rfl<|.nil<|rg<|.mv rfl rfl<|.P rfl (iN (n:=12) 118 2 underlying121 sizeOf118 rfl rfl)<|.P rfl (sl (o2:=2+nk.toNat) underlying118 sizeOf4 rfl rfl (hm _ (dj (qB cF))).1 (by have:=(hm _ (dj (qB cF))).2;omega) zO)<|.W rfl (sq sizeOf4 rfl rfl rfl rfl (by(have:=(hm _ (dj (qB cF))).2;have:=(hm _ (dj (qB cF))).1;simp;omega)))<|.nil<|U.nil (bR ?_);refine U.nil (cz ?_);exact⟨⟨seen++[nj],Jw fD (AJ cF),amf (qB cF) bA⟩,by exact JI ((cI.1 (qB cF)).1) (AJ cF),Le.mk rfl (.n 7 rfl rfl .nil) (.cons rfl rfl (.eq rfl (by(congr 1;rw[Lp (hm _ (dj (qB cF))).1 (hm _ (dj (qB cF))).2];exact Gx fun j _=>(aiY (qB cF) (hm _ (dj (qB cF))).1 j).symm)) rfl (.cons rfl rfl .nil)))⟩
structure akY(w:aa)(c:Int)(more:List Int)where
 u:Unit
structure akZ(w:aa)(c:Int)(more:List Int)where
 pre:List Int
 rest:List Int
 hx:more=pre++rest
def Wx(w:aa)(c:Int)(more:List Int)(A3:∀n∈more,0<=n/\n<13)(Vm:more.length<=100):Fc prog 121 [.str w,.i c,(D.raw (.map none)),lZ more] (.agg (dN w c (ck [] more) (D.raw (.map none)) false)):=by
 refine Fc.jM func121 rfl ntmps121 rfl rfl rfl ?_;refine U.seq<|rg<|.W rfl (jC 0 zeroValue121 rfl)<|.nil<|U.seq<|rg<|.mv rfl rfl<|.mv rfl rfl<|.mv rfl rfl<|.P rfl (rn (pl:=#[(0,1),(1,1),(2,13),(15,1),(16,1)]) underlying121 zeroValue121 (fun w=>by kernel_rfl) rfl rfl)<|.W rfl (jC 1 zeroValue121 rfl)<|.W rfl (kP sizeOf121 rfl rfl rfl rfl rfl rfl)<|.nil<|U.seq<|U.seq<|rg<|.mv rfl rfl<|.W rfl (apz 2 underlying119 rfl rfl)<|.nil<|U.block<|U.loop (ι:=akY w c more) (fun sx=>[(0,.str w),(1,.i c),(2,(D.raw (.map none))),(3,lZ more),(8,.box 0 0),(9,.box 1 0),(18,.box 2 0)]) (fun sx=>[(2,.mn),(1,.cells (dN w c (fun _=>false) (D.raw (.map none)) false)),(0,.cells [.str [],.raw (.int .i64 0),.b false,.b false,.b false,.b false,.b false,.b false,.b false,.b false,.b false,.b false,.b false,.b false,.b false,.raw (.map none),.b false])]) (fun sx=>0) ⟨()⟩ ?_ ?_
 ·exact Le.mk rfl (.n 7 rfl rfl .nil) (.cons rfl rfl (.cons rfl rfl (.cons rfl rfl .nil)))
 ·rintro⟨u⟩;try dsimp only
  skip
  ·refine U.seq<|rg<|.R rfl (apv rfl rfl)<|.P rfl (eP rfl rfl)<|.nil<|U.seq<|U.c6 rfl rfl<|U.exit (dz (du ?_));refine U.seq<|U.seq<|rg<|.mv rfl rfl<|.P rfl (cv underlying25 rfl)<|.mv rfl rfl<|.nil<|U.block<|U.loop (ι:=akZ w c more) (fun sx=>[(3,lZ more),(8,.box 0 0),(9,.box 1 0),(26,lZ more),(27,.i more.length),(28,.i sx.pre.length)]) (fun sx=>[(1,.cells (dN w c (AS (fun _=>false) sx.pre) (D.raw (.map none)) false)),(0,.cells [.str [],.raw (.int .i64 0),.b false,.b false,.b false,.b false,.b false,.b false,.b false,.b false,.b false,.b false,.b false,.b false,.b false,.raw (.map none),.b false])]) (fun sx=>sx.rest.length) ⟨[],_,rfl⟩ ?_ ?_
   ·exact Le.mk rfl (.n 4 rfl rfl (.cons rfl (Sub.int zS) rfl (.s rfl rfl .nil))) (.cons rfl rfl (.cons rfl rfl .nil))
   ·rintro⟨pre,rest,hx⟩;try dsimp only
    rcases lc hx with⟨rfl,hl⟩|⟨x,rest,rfl,hl⟩
    ·obtain rfl:more=pre:=by simpa using hx
     refine U.seq<|rg<|.P rfl (bp rfl rfl)<|.nil<|U.seq<|U.c6 rfl zS<|U.exit (dz (du ?_));refine U.seq<|rg<|.R rfl (B8 isAgg121 sizeOf121 rfl rfl rfl)<|.W rfl (kP sizeOf121 rfl rfl rfl rfl rfl rfl)<|.nil<|U.ret (?_);exact Rd.cA results121 isAgg121 sizeOf121 rfl rfl rfl (Sub.agg (.r (.cons (Sub.refl _) (.r (.cons (Sub.refl _) (.r (.cons (Sub.refl _) (.r (.cons (Sub.refl _) (.r (.cons (Sub.refl _) (.r (.cons (Sub.refl _) (.r (.cons (Sub.refl _) (.r (.cons (Sub.refl _) (.r .nil))))))))))))))))))
    ·have qS:=A3 x (by rw[hx];simp);refine U.seq<|rg<|.P rfl (bp rfl rfl)<|.nil<|U.seq<|U.ew rfl zQ<|U.skip<|U.seq<|U.block<|U.seq<|rg<|.P rfl (eC underlying25 sizeOf3 rfl rfl zO (aK (fun n=>[D.i n]) hx rfl))<|.P rfl (bE isAgg3 rfl)<|.ag rfl rfl<|.nil<|rg<|.mv rfl rfl<|.P rfl (iN (n:=12) 118 2 underlying121 sizeOf118 rfl rfl)<|.P rfl (sl (o2:=2+x.toNat) underlying118 sizeOf4 rfl rfl qS.1 zO zO)<|.W rfl (sq sizeOf4 rfl rfl rfl rfl zQ)<|.nil<|U.nil (bR ?_);refine rg<|.P rfl (bx rfl rfl (ao zO))<|.mv rfl rfl<|.nil<|U.nil (cz ?_);exact⟨⟨pre++[x],rest,by simp[hx]⟩,by simp,Le.mk rfl (.n 5 rfl rfl (.cons rfl (Sub.int zS) rfl .nil)) (.eq rfl (by(congr 1;rw[Lp qS.1 qS.2];exact Gx fun j _=>(UK qS.1 j).symm)) rfl (.cons rfl rfl .nil))⟩
end Go.T
namespace Go.T
open Go
variable[bX]
theorem aq.insert{P:Program}{dst:Option Tmp}{t:TypeId}{x y z:Operand}{ty:TypeId}{pos:String}{ar:Array Edge}{g:Option (Nat×Bool)}{env:Env}{Z:ae}{d:D}{aj:ae}
  (h:aq P ⟨dst,.mapUpdate t x y z,ty,pos,ar,g⟩ env Z d aj):aq P ⟨dst,.insert t x y z,ty,pos,ar,g⟩ env Z d aj:=fun O ρ a w ai hg hv=>h O ρ a w ai hg hv
end Go.T
namespace Go.T
open Go Go.Proofs Go.Proofs.Tryz
def abx(w:aa)(c:Int)(h:Nat->Bool)(m:i_):Fc prog 123 [.agg (dN w c h (ek m) false)] (.agg (dN w c h (ek m) true)):=by
 refine Fc.jM func123 rfl ntmps123 rfl rfl rfl ?_;refine go [99999]<|U.ret (?_);exact Rd.cA results123 isAgg121 sizeOf121 rfl rfl rfl (Sub.agg (.r (.cons (Sub.refl _) (.r (.cons (Sub.refl _) (.r (.cons (Sub.refl _) (.r (.cons (Sub.refl _) (.r (.cons (Sub.refl _) (.r (.cons (Sub.refl _) (.r (.cons (Sub.refl _) (.r (.cons (Sub.refl _) (.r .nil))))))))))))))))))
def CE(w:aa):Fc prog 122 [.str w,.bj [.fn (.func 121) [] []],.bj [bS (some (true,false))]] (.agg (dN w 2 (ck [((5:Int),(some (true,false):oa))] [2]) (ek [((5:Int),(some (true,false):oa))]) false)):=by
 refine Fc.jM func122 rfl ntmps122 rfl rfl rfl ?_;refine go [1,99999]<|U.vK<|Tx.q rfl trivial (bE isAgg156 rfl _)<|Tx.q rfl trivial (aX rfl _)<|Tx.q rfl trivial (ni 1 (fun n:Int=>D.raw (.int .i64 n)) (bS) rfl)<|Tx.q rfl trivial (bE isAgg154 rfl _)<|Tx.q rfl trivial (aq.insert (eV e6 (vD:=bS) (k:=(5:Int)) (v:=(some (true,false))) underlying119 rfl rfl rfl rfl rfl rfl))<|Tx.q rfl trivial (aX rfl _)<|Tx.q rfl trivial (bK (n:=1) (rows:=[[D.i 2]]) underlying25 sizeOf3 rfl rfl rfl zeroValue3 rfl rfl rfl rfl rfl rfl rfl _)<|Tx.bc (Le.GW (kD:=(fun n:Int=>D.raw (.int .i64 n))) (vD:=bS) (m:=[((5:Int),(some (true,false):oa))]) 9 1 rfl rfl (fun _=>rfl) NV)<|Tx.q rfl trivial (eO call121 rfl rfl (qW w 2 [((5:Int),(some (true,false):oa))] [2] zS zS zS).sub _)<|Tx.q rfl trivial (kP sizeOf121 rfl rfl rfl rfl rfl rfl)<|Tx.nil<|go [1,99999]<|U.ret (?_);exact Rd.cA results122 isAgg121 sizeOf121 rfl rfl rfl (Sub.agg (.r (.cons (Sub.refl _) (.r (.cons (Sub.refl _) (.r (.cons (Sub.refl _) (.r (.cons (Sub.refl _) (.r (.cons (Sub.refl _) (.r (.cons (Sub.refl _) (.r (.cons (Sub.refl _) (.r (.cons (Sub.refl _) (.r .nil))))))))))))))))))
end Go.T
namespace Go.T
open Go
variable[bX]
abbrev ib:Int->D:=fun n=>.raw (.int .i64 n)
def aqI{β:Type}{m:List (Int×β)}{k:Int}{v:β}(h:k∉m.map (·.1)):eD m k v=m++[(k,v)]:=by
 induction m with
 |nil=>rfl
 |cons p r ih=>
  obtain⟨a,u⟩:=p;simp only[cP,cr,HW]at h;simp only[eD,aF h.1,ih h.2,jF]
def nE(listed:Array Bool)(ins:List (Nat×Int)):List Int:=(ins.filter fun e=>bf listed e.1).map (·.2)
def Gq{listed:Array Bool}{i:Nat}{ins:List (Nat×Int)}(hi:i<listed.size)(h:i∉ins.map (·.1)):nE (listed.setIfInBounds i true) ins=nE listed ins:=by
 unfold nE
 congr 1
 apply I1;intro e he;have aC:¬i=e.1:=fun e'=>h (by rw[e'];exact qD he);rw[fU hi,aF aC]
def afW{listed:Array Bool}{i:Nat}{k:Int}{ins:List (Nat×Int)}(hi:i<listed.size)(hl:bf listed i=false)(hm:(i,k)∈ins)(hn:(ins.map (·.1)).Nodup):(nE (listed.setIfInBounds i true) ins).Perm (nE listed ins++[k]):=by
 induction ins with
 |nil=>cases hm
 |cons e r ih=>
  rw[cP,kr]at hn;by_cases h:i=e.1
  ·have hk:k=e.2:=by
    rcases cr.1 hm with rfl|hm
    ·rfl
    ·exact absurd (h▸qD (f:=Prod.fst) hm) hn.1
   have h1:=Gq (listed:=listed) hi (h▸hn.1:i∉r.map (·.1));unfold nE at h1|-;rw[oq,oq,fU hi,aV h,<-h,hl,aV rfl];simp only[gM,pb,cP];rw[h1,<-hk];exact(List.perm_append_comm (l₁:=[k]))
  ·have DA:(i,k)∈r:=(cr.1 hm).resolve_left (fun e'=>h (by rw[<-e']));have h1:=ih DA hn.2;unfold nE at h1|-;rw[oq,oq,fU hi,aF h];split
   ·exact h1.cons e.2
   ·exact h1
structure oc{β:Type}(vD:β->D)(R:Int->β->Prop)(listed:Array Bool)(Z:ae)(mk fz id:Nat)(ins:List (Nat×Int)):Prop where
 no:bf listed mk=false->Z.get id=none/\nE listed ins=[]
 yes:bf listed mk=true->bf listed fz=false->∃m:List (Int×β),Z.get id=some (.mp (bP ib vD m))/\(m.map (·.1)).Perm (nE listed ins)/\∀p∈m,R p.1 p.2
section
variable{β:Type} {vD:β->D} {R:Int->β->Prop} {listed:Array Bool} {Z aj:ae} {mk fz id i:Nat} {ins:List (Nat×Int)}
def oc.other(h:oc vD R listed Z mk fz id ins)(hi:i<listed.size)(h1:i≠mk)(h2:i≠fz)(h3:i∉ins.map (·.1))(ho:aj.get id=Z.get id):oc vD R (listed.setIfInBounds i true) aj mk fz id ins:=by
 refine⟨fun e=>?_,fun e e'=>?_⟩
 ·rw[fU hi,aF h1]at e;rw[ho,Gq hi h3];exact h.no e
 ·rw[fU hi,aF h1]at e;rw[fU hi,aF h2]at e';rw[ho,Gq hi h3];exact h.yes e e'
def oc.make(h:oc vD R listed Z i fz id ins)(hi:i<listed.size)(hl:bf listed i=false)(h3:i∉ins.map (·.1)):oc vD R (listed.setIfInBounds i true) ((id,.mp (bP ib vD []))::Z) i fz id ins:=by
 refine⟨fun e=>?_,fun _ _=>⟨[],by simp[ae.bm],?_,by simp⟩⟩
 ·rw[fU hi,aV rfl]at e;cases e
 ·rw[Gq hi h3,(h.no hl).2];simp
def oc.insert{k:Int}{v:β}{m:List (Int×β)}(h:oc vD R listed Z mk fz id ins)(hi:i<listed.size)(hl:bf listed i=false)(h1:i≠mk)(h2:i≠fz)(hm:(i,k)∈ins)(hn:(ins.map (·.1)).Nodup)(hk:(ins.map (·.2)).Nodup)
  (ho:Z.get id=some (.mp (bP ib vD m)))(hp:(m.map (·.1)).Perm (nE listed ins))(hR:∀p∈m,R p.1 p.2)(hv:R k v):oc vD R (listed.setIfInBounds i true) (Z.set id (.mp (bP ib vD (eD m k v)))) mk fz id ins:=by
 have yH:k∉m.map (·.1):=by
  intro yE;have h4:=hp.mem_iff.1 yE;unfold nE at h4;obtain⟨e,he,nL⟩:=dh.1 h4;rw[eX]at he;have:e=(i,k):=by
   have h5:∀(l:List (Nat×Int)),(l.map (·.2)).Nodup->∀a∈l,∀b∈l,a.2=b.2->a=b:=by
    intro l;induction l with
    |nil=>intro _ a ha;cases ha
    |cons x l ih=>
     intro hn a ha b hb wL;rw[cP,kr]at hn;rcases cr.1 ha with ea|yt<;>rcases cr.1 hb with eb|rN
     ·rw[ea,eb]
     ·exact absurd (by rw[<-ea,wL];exact qD (f:=Prod.snd) rN) hn.1
     ·exact absurd (by rw[<-eb,<-wL];exact qD (f:=Prod.snd) yt) hn.1
     ·exact ih hn.2 a yt b rN wL
   exact h5 ins hk e he.1 (i,k) hm nL
  rw[this]at he;rw[hl]at he;cases he.2
 refine⟨fun e=>?_,fun _ _=>⟨m++[(k,v)],by rw[ae.ej,aV rfl,aqI yH],?_,fun p pY=>?_⟩⟩
 ·rw[fU hi,aF h1]at e;rw[(h.no e).1]at ho;cases ho
 ·rw[Bh];exact(hp.append_right [k]).trans (afW hi hl hm hn).symm
 ·rcases cM.1 pY with pY|pY
  ·exact hR p pY
  ·simp at pY;subst pY;exact hv
def oc.freeze(h:oc vD R listed Z mk i id ins)(hi:i<listed.size)(h1:bf listed mk=true):oc vD R (listed.setIfInBounds i true) aj mk i id ins:=by
 refine⟨fun e=>?_,fun _ e=>?_⟩
 ·rw[fU hi]at e;split at e
  ·cases e
  ·rw[h1]at e;cases e
 ·rw[fU hi,aV rfl]at e;cases e
end
def qq(jn:List (Option Nat))(VK:Nat->D->Prop)(listed:Array Bool)(env:Env):Prop:=∀j t,bf listed j=true->jn[j]?=some (some t)->∃d,env.get t=some d/\VK j d
def x_(jn:List (Option Nat)):Bool:=(List.range jn.length).all fun i=>(List.range jn.length).all fun j=>i==j||jn[i]?!=jn[j]?||jn[i]?==some none
def Sp{jn:List (Option Nat)}(h:x_ jn=true){i j t:Nat}(hi:jn[i]?=some (some t))(hj:jn[j]?=some (some t)):i=j:=by
 have li:=(cI.1 hi).1;have lj:=(cI.1 hj).1;have h1:=de.1 (de.1 h i (px.2 li)) j (px.2 lj);rw[hi,hj]at h1;simpa using h1
def qq.put{jn:List (Option Nat)}{VK:Nat->D->Prop}{listed:Array Bool}{env:Env}{i t:Nat}{d:D}(h:qq jn VK listed env)(hd:x_ jn=true)(hi:i<listed.size)(ht:jn[i]?=some (some t))(hv:VK i d):qq jn VK (listed.setIfInBounds i true) ((t,d)::env):=by
 intro j t' hj rV;rw[Env.bm];by_cases e:t=t'
 ·subst e;obtain rfl:=Sp hd ht rV;exact⟨d,by rw[aV rfl],hv⟩
 ·rw[aF e];refine h j t' ?_ rV;rw[fU hi]at hj;split at hj
  ·rename_i e';subst e';rw[ht]at rV;cases rV;exact absurd rfl e
  ·exact hj
theorem qq.none{jn:List (Option Nat)}{VK:Nat->D->Prop}{listed:Array Bool}{env:Env}{i:Nat}(h:qq jn VK listed env)(hi:i<listed.size)(ht:jn[i]?=some Option.none):qq jn VK (listed.setIfInBounds i true) env:=by
 intro j t' hj rV;refine h j t' ?_ rV;rw[fU hi]at hj;split at hj
 ·rename_i e';subst e';rw[ht]at rV;cases rV
 ·exact hj
def dp{listed:Array Bool}{o:Oper}(hd:∀e∈o.after,Region.binds .any e=true->bf listed e.on=true)(j:Nat)(h:(o.after.any fun e=>e.on==j&&Region.binds .any e)=true):bf listed j=true:=by
 rw[Array.any_eq_true']at h;obtain⟨e,he,h2⟩:=h;rw[bd]at h2;have:=hd e he h2.2;rwa[show e.on=j by simpa using h2.1]at this
end Go.T
namespace Go.T
open Go
def dC(E m:i_):Prop:=(m.map (·.1)).Perm (E.map (·.1))/\∀p∈m,p∈E
theorem dC.refl(E:i_):dC E E:=⟨List.Perm.refl _,fun _ h=>h⟩
structure mz where
 w:aa
 c:Int
 h:Nat->Bool
 num:Option i_
 code:Bool
structure jT where
 w:aa
 c:Int
 num:Option i_
 more:List Int
 code:Bool
@[reducible] def lP:oa:=some (true,false)
@[reducible] def lL:oa:=some (false,false)
@[reducible] def lQ:oa:=some (false,true)
@[reducible] def eA:i_:=[(5,lP)]
@[reducible] def eT:i_:=[(4,lP),(5,lL),(6,lL)]
def eU(k:Int):Option jT:=
 if k=1 then some ⟨[100,101,112,111,115,105,116],2,some eA,[2],false⟩
 else if k=2 then some ⟨[119,105,116,104,100,114,97,119],2,some eA,[2],false⟩
 else if k=3 then some ⟨[98,117,121],3,some eT,[0],false⟩
 else if k=4 then some ⟨[115,101,108,108],3,some eT,[0,10],false⟩
 else if k=5 then some ⟨[105,110,99,111,109,101],1,some [(7,lP)],[0],false⟩
 else if k=6 then some ⟨[101,120,112,101,110,115,101],2,some eA,[2],false⟩
 else if k=7 then some ⟨[99,111,110,118,101,114,116],2,some [(4,lP),(5,lP)],[1,2],true⟩
 else if k=8 then some ⟨[115,112,108,105,116],1,some [(7,lL),(8,lP)],[0],false⟩
 else if k=9 then some ⟨[115,112,105,110,111,102,102],1,some [(7,lL),(8,lP),(9,lQ)],[0,1],false⟩
 else if k=10 then some ⟨[101,120,99,104,97,110,103,101],1,none,[0,11],false⟩
 else if k=11 then some ⟨[101,108,101,99,116],4,none,[0,3,12],false⟩
 else if k=12 then some ⟨[101,120,101,114,99,105,115,101],3,some [(4,lP),(7,lL),(8,lP)],[0,1],false⟩
 else if k=13 then some ⟨[99,97,112,105,116,97,108],1,some [(7,lP)],[0],false⟩
 else if k=14 then some ⟨[99,97,108,108],1,some [(7,lL)],[0],false⟩
 else if k=15 then some ⟨[112,114,105,99,101],4,some [(7,lL)],[0],false⟩
 else if k=16 then some ⟨[114,97,116,101],4,some [(8,lP)],[1,2],true⟩
 else if k=17 then some ⟨[105,115,115,117,101],2,some eA,[2],false⟩
 else if k=18 then some ⟨[99,97,110,99,101,108],2,some eA,[2],false⟩
 else none
def PO(r:jT)(v:mz):Prop:=
 match r.num with
 |none=>v.num=none/\v.h=ck [] r.more
 |some E=>∃m,dC E m/\v.num=some m/\v.h=ck m r.more
def sN(k:Int)(v:mz):Prop:=∃r,eU k=some r/\v.w=r.w/\v.c=r.c/\v.code=r.code/\PO r v
structure MQ where
 bo:Nat
 fz:Nat
 id:Nat
 ins:List (Nat×Int)
 E:i_
 deriving DecidableEq
def MQ.ok(q:MQ)(i:Nat):Bool:=!(i==q.bo)&&!(i==q.fz)&&!(q.ins.map (·.1)).contains i
def MQ.zj{q:MQ}{i:Nat}(h:q.ok i=true):i≠q.bo/\i≠q.fz/\i∉q.ins.map (·.1):=by
 unfold MQ.ok at h;rw[bd,bd]at h;refine⟨by simpa using h.1.1,by simpa using h.1.2,?_⟩;have:=h.2;intro hm;rw[uO.2 hm]at this;cases this
open Go.Proofs Go.Proofs.Tryz
def r4:List (Option Nat):=[some 15,some 16,some 17,none,some 18,some 19,none,some 20,some 21,some 22,some 23,none,some 24,some 25,some 26,some 27,none,some 28,some 29,some 30,none,some 31,some 32,some 33,none,some 34,some 35,none,some 36,some 37,some 38,some 39,none,some 40,none,some 41,some 42,some 43,some 44,none,some 45,some 46,some 47,none,some 48,none,some 49,some 50,some 51,none,some 52,some 53,some 54,none,some 55,none,some 56,none,some 57,some 58,some 59,none,some 60,some 61,some 62,none,some 63,some 64,some 65,none,some 66,some 67,some 68,none,some 69,none,some 70,none,some 71,some 72,some 73,none,some 74,some 75,some 76,none,some 77,some 78,some 79,none,some 80,some 81,some 82,none,some 83,some 84,some 85,none,some 86,some 87,some 88,none,some 89,some 90,some 91,none,some 92,some 93,some 94,some 95,none,some 96,some 97,some 98,some 99,none,some 100,some 101,none,some 102,some 103,none,some 104,some 0]
def kVT:List (D->Prop):=[fun d=>d=.cL 50,
 fun d=>d=.fn (.func 122) [] [.bj [.fn (.func 121) [] []],.bj [bS (some (true,false))]],
 fun d=>∃m,dC eA m/\d=.agg (dN [100,101,112,111,115,105,116] 2 (ck m [2]) (ek m) false),
 fun _=>True,
 fun d=>d=.fn (.func 122) [] [.bj [.fn (.func 121) [] []],.bj [bS (some (true,false))]],
 fun d=>∃m,dC eA m/\d=.agg (dN [119,105,116,104,100,114,97,119] 2 (ck m [2]) (ek m) false),
 fun _=>True,
 fun d=>d=.fn (.func 121) [] [],
 fun d=>d=ek eT,
 fun d=>d=.snap 1 true [[D.i 0]],
 fun d=>∃m,dC eT m/\d=.agg (dN [98,117,121] 3 (ck m [0]) (ek m) false),
 fun _=>True,
 fun d=>d=.fn (.func 121) [] [],
 fun d=>d=ek eT,
 fun d=>d=.snap 1 true [[D.i 0],[D.i 10]],
 fun d=>∃m,dC eT m/\d=.agg (dN [115,101,108,108] 3 (ck m [0,10]) (ek m) false),
 fun _=>True,
 fun d=>d=.fn (.func 121) [] [],
 fun d=>d=.cL 51,
 fun d=>d=bS lP,
 fun _=>True,
 fun d=>∃m,dC [((7:Int),lP)] m/\d=ek m,
 fun d=>d=.snap 1 true [[D.i 0]],
 fun d=>∃m,dC [((7:Int),lP)] m/\d=.agg (dN [105,110,99,111,109,101] 1 (ck m [0]) (ek m) false),
 fun _=>True,
 fun d=>d=.fn (.func 122) [] [.bj [.fn (.func 121) [] []],.bj [bS (some (true,false))]],
 fun d=>∃m,dC eA m/\d=.agg (dN [101,120,112,101,110,115,101] 2 (ck m [2]) (ek m) false),
 fun _=>True,
 fun d=>d=.fn (.func 123) [] [],
 fun d=>d=.fn (.func 121) [] [],
 fun d=>d=.cL 52,
 fun d=>d=bS lP,
 fun _=>True,
 fun d=>d=bS lP,
 fun _=>True,
 fun d=>∃m,dC [((4:Int),lP),((5:Int),lP)] m/\d=ek m,
 fun d=>d=.snap 1 true [[D.i 1],[D.i 2]],
 fun d=>∃m,dC [((4:Int),lP),((5:Int),lP)] m/\d=.agg (dN [99,111,110,118,101,114,116] 2 (ck m [1,2]) (ek m) false),
 fun d=>∃m,dC [((4:Int),lP),((5:Int),lP)] m/\d=.agg (dN [99,111,110,118,101,114,116] 2 (ck m [1,2]) (ek m) true),
 fun _=>True,
 fun d=>d=.fn (.func 121) [] [],
 fun d=>d=.cL 53,
 fun d=>d=bS lL,
 fun _=>True,
 fun d=>d=bS lP,
 fun _=>True,
 fun d=>∃m,dC [((7:Int),lL),((8:Int),lP)] m/\d=ek m,
 fun d=>d=.snap 1 true [[D.i 0]],
 fun d=>∃m,dC [((7:Int),lL),((8:Int),lP)] m/\d=.agg (dN [115,112,108,105,116] 1 (ck m [0]) (ek m) false),
 fun _=>True,
 fun d=>d=.fn (.func 121) [] [],
 fun d=>d=.cL 54,
 fun d=>d=bS lL,
 fun _=>True,
 fun d=>d=bS lP,
 fun _=>True,
 fun d=>d=bS lQ,
 fun _=>True,
 fun d=>∃m,dC [((7:Int),lL),((8:Int),lP),((9:Int),lQ)] m/\d=ek m,
 fun d=>d=.snap 1 true [[D.i 0],[D.i 1]],
 fun d=>∃m,dC [((7:Int),lL),((8:Int),lP),((9:Int),lQ)] m/\d=.agg (dN [115,112,105,110,111,102,102] 1 (ck m [0,1]) (ek m) false),
 fun _=>True,
 fun d=>d=.fn (.func 121) [] [],
 fun d=>d=.snap 1 true [[D.i 0],[D.i 11]],
 fun d=>d=.agg (dN [101,120,99,104,97,110,103,101] 1 (ck [] [0,11]) (.raw (.map none)) false),
 fun _=>True,
 fun d=>d=.fn (.func 121) [] [],
 fun d=>d=.snap 1 true [[D.i 0],[D.i 3],[D.i 12]],
 fun d=>d=.agg (dN [101,108,101,99,116] 4 (ck [] [0,3,12]) (.raw (.map none)) false),
 fun _=>True,
 fun d=>d=.fn (.func 121) [] [],
 fun d=>d=.cL 55,
 fun d=>d=bS lP,
 fun _=>True,
 fun d=>d=bS lL,
 fun _=>True,
 fun d=>d=bS lP,
 fun _=>True,
 fun d=>∃m,dC [((4:Int),lP),((7:Int),lL),((8:Int),lP)] m/\d=ek m,
 fun d=>d=.snap 1 true [[D.i 0],[D.i 1]],
 fun d=>∃m,dC [((4:Int),lP),((7:Int),lL),((8:Int),lP)] m/\d=.agg (dN [101,120,101,114,99,105,115,101] 3 (ck m [0,1]) (ek m) false),
 fun _=>True,
 fun d=>d=.fn (.func 121) [] [],
 fun d=>d=.cL 56,
 fun d=>d=bS lP,
 fun _=>True,
 fun d=>∃m,dC [((7:Int),lP)] m/\d=ek m,
 fun d=>d=.snap 1 true [[D.i 0]],
 fun d=>∃m,dC [((7:Int),lP)] m/\d=.agg (dN [99,97,112,105,116,97,108] 1 (ck m [0]) (ek m) false),
 fun _=>True,
 fun d=>d=.fn (.func 121) [] [],
 fun d=>d=.cL 57,
 fun d=>d=bS lL,
 fun _=>True,
 fun d=>∃m,dC [((7:Int),lL)] m/\d=ek m,
 fun d=>d=.snap 1 true [[D.i 0]],
 fun d=>∃m,dC [((7:Int),lL)] m/\d=.agg (dN [99,97,108,108] 1 (ck m [0]) (ek m) false),
 fun _=>True,
 fun d=>d=.fn (.func 121) [] [],
 fun d=>d=.cL 58,
 fun d=>d=bS lL,
 fun _=>True,
 fun d=>∃m,dC [((7:Int),lL)] m/\d=ek m,
 fun d=>d=.snap 1 true [[D.i 0]],
 fun d=>∃m,dC [((7:Int),lL)] m/\d=.agg (dN [112,114,105,99,101] 4 (ck m [0]) (ek m) false),
 fun _=>True,
 fun d=>d=.fn (.func 123) [] [],
 fun d=>d=.fn (.func 121) [] [],
 fun d=>d=.cL 59,
 fun d=>d=bS lP,
 fun _=>True,
 fun d=>∃m,dC [((8:Int),lP)] m/\d=ek m,
 fun d=>d=.snap 1 true [[D.i 1],[D.i 2]],
 fun d=>∃m,dC [((8:Int),lP)] m/\d=.agg (dN [114,97,116,101] 4 (ck m [1,2]) (ek m) false),
 fun d=>∃m,dC [((8:Int),lP)] m/\d=.agg (dN [114,97,116,101] 4 (ck m [1,2]) (ek m) true),
 fun _=>True,
 fun d=>d=.fn (.func 122) [] [.bj [.fn (.func 121) [] []],.bj [bS (some (true,false))]],
 fun d=>∃m,dC eA m/\d=.agg (dN [105,115,115,117,101] 2 (ck m [2]) (ek m) false),
 fun _=>True,
 fun d=>d=.fn (.func 122) [] [.bj [.fn (.func 121) [] []],.bj [bS (some (true,false))]],
 fun d=>∃m,dC eA m/\d=.agg (dN [99,97,110,99,101,108] 2 (ck m [2]) (ek m) false),
 fun _=>True,
 fun d=>d=.cL 50,
 fun d=>d=.cL 50]
def Bk(i:Nat):D->Prop:=(kVT[i]?).getD fun _=>True
def lT:List MQ:=[⟨18,21,51,[(20,7)],[((7:Int),lP)]⟩,⟨30,35,52,[(32,4),(34,5)],[((4:Int),lP),((5:Int),lP)]⟩,⟨41,46,53,[(43,7),(45,8)],[((7:Int),lL),((8:Int),lP)]⟩,⟨51,58,54,[(53,7),(55,8),(57,9)],[((7:Int),lL),((8:Int),lP),((9:Int),lQ)]⟩,⟨71,78,55,[(73,4),(75,7),(77,8)],[((4:Int),lP),((7:Int),lL),((8:Int),lP)]⟩,⟨83,86,56,[(85,7)],[((7:Int),lP)]⟩,⟨91,94,57,[(93,7)],[((7:Int),lL)]⟩,⟨99,102,58,[(101,7)],[((7:Int),lL)]⟩,⟨108,111,59,[(110,8)],[((8:Int),lP)]⟩]
def nS:List (Nat×Int):=[(3,1),(6,2),(11,3),(16,4),(24,5),(27,6),(39,7),(49,8),(61,9),(65,10),(69,11),(81,12),(89,13),(97,14),(105,15),(115,16),(118,17),(121,18)]
@[reducible] def BN:Option i_->D
 |none=>.raw (.map none)
 |some m=>ek m
@[reducible] def fE(v:mz):D:=.agg (dN v.w v.c v.h (BN v.num) v.code)
def akX(v:mz):(fE v).bw=true:=by
 obtain⟨w,c,h,n,code⟩:=v;cases n<;>rfl
def DY:x_ r4=true:=by decide+kernel
abbrev KF:Fr:=⟨105,[],false,none⟩
structure FH(env:Env):Prop where
 b1:env.get 1=some (.bj [bS lP])
 b2:env.get 2=some (bS lL)
 b3:env.get 3=some (.bj [.fn (.func 121) [] []])
 b4:env.get 4=some (.fn (.func 122) [] [.bj [.fn (.func 121) [] []],.bj [bS (some (true,false))]])
 b5:env.get 5=some (.fn (.func 123) [] [])
 b6:env.get 6=some (ek eT)
structure oV(listed:Array Bool)(env:Env)(Z:ae):Prop where
 aB:qq r4 Bk listed env
 cZ:FH env
 By:oc fE sN listed Z 0 1000 50 nS
 vg:∀q∈lT,oc bS (fun k v=>(k,v)∈q.E) listed Z q.bo q.fz q.id q.ins
 sQ:∀q∈lT,bf listed q.fz=true->∀e∈q.ins,bf listed e.1=true
def FH.put{env:Env}{t:Nat}{d:D}(h:FH env)(ht:(Nat.blt 6 t||t==0)=true):FH ((t,d)::env):=by
 have ht:6<t\/t=0:=by simpa[jE]using ht
 have key:∀s,0<s->s<=6->Env.get ((t,d)::env) s=env.get s:=fun s h0 hs=>by rw[Env.bm,aF zO]
 exact⟨by rw[key 1 zO zO];exact h.b1,by rw[key 2 zO zO];exact h.b2,by rw[key 3 zO zO];exact h.b3,by rw[key 4 zO zO];exact h.b4,by rw[key 5 zO zO];exact h.b5,by rw[key 6 zO zO];exact h.b6⟩
abbrev ug(listed:Array Bool)(env:Env)(Z:ae)(i:Nat)(o:Oper)(ops:Array Oper):Prop:=
 ∃d aj gb dG,eF KF.N o.dst=true/\On ops env o/\aq prog o env Z d aj/\Le KF (env.put o.dst d) aj gb dG/\oV (listed.setIfInBounds i true) gb dG
def vo{ops:Array Oper}{env:Env}{o:Oper}(h:o.guard=none):On ops env o:=by unfold On;rw[h];trivial
def LY(i:Nat):Bool:=!(i==0)&&!(i==1000)&&!(nS.map (·.1)).contains i&&lT.all (·.ok i)
def qq.aqT{jn:List (Option Nat)}{VK:Nat->D->Prop}{listed:Array Bool}{env:Env}{i t:Nat}{d:D}(h:qq jn VK listed env)(hd:x_ jn=true)(hl:bf listed i=false)(ht:jn[i]?=some (some t)):qq jn VK listed ((t,d)::env):=by
 intro j t' hj rV;rw[Env.bm];by_cases e:t=t'
 ·subst e;obtain rfl:=Sp hd ht rV;rw[hl]at hj;cases hj
 ·rw[aF e];exact h j t' hj rV
def D6{listed:Array Bool}{i j:Nat}(hi:i<listed.size)(h:bf listed j=true):bf (listed.setIfInBounds i true) j=true:=by
 rw[fU hi];split
 ·rfl
 ·exact h
def vm(i:Nat):Bool:=lT.all fun q=>!(i==q.fz)
def CL{listed:Array Bool}{i:Nat}(h:∀q∈lT,bf listed q.fz=true->∀e∈q.ins,bf listed e.1=true)(hi:i<listed.size)(hz:vm i=true):∀q∈lT,bf (listed.setIfInBounds i true) q.fz=true->∀e∈q.ins,bf (listed.setIfInBounds i true) e.1=true:=by
 intro q hq hf e he;have h1:i≠q.fz:=by simpa using List.all_eq_true.1 hz q hq
 rw[fU hi,aF h1]at hf;exact D6 hi (h q hq hf e he)
def FV(listed:Array Bool):List (Nat×Int)->Prop
 |[]=>True
 |e::r=>bf listed e.1=true/\FV listed r
theorem FV.all{listed:Array Bool}:∀{l:List (Nat×Int)},FV listed l->∀e∈l,bf listed e.1=true
 |[],_,e,he=>by cases he
 |x::l,h,e,he=>by
  rcases cr.1 he with rfl|he
  ·exact h.1
  ·exact h.2.all e he
def Sy{listed:Array Bool}{l:List (Nat×Int)}(h:∀e∈l,bf listed e.1=true):nE listed l=l.map (·.2):=by
 unfold nE;rw[List.filter_eq_self.2 h]
def kQ(j:Nat):MQ:=(lT[j]?).getD ⟨0,0,0,[],[]⟩
def lU{j:Nat}(h:Nat.blt j lT.length=true):kQ j∈lT:=by
 have h:j<lT.length:=by simpa[jE]using h
 unfold kQ;rw[eu h];exact CD h
section
variable{ops:Array Oper} {listed:Array Bool} {env:Env} {Z:ae} {i t:Nat} {o:Oper} {d:D}
def Ic{aj:ae}(hI:oV listed env Z)(bb:i<listed.size)(h:(!(i==0)&&!(i==1000)&&!(nS.map (·.1)).contains i)=true)(ho:aj.get 50=Z.get 50):oc fE sN (listed.setIfInBounds i true) aj 0 1000 50 nS:=by
 rw[bd,bd]at h;refine hI.By.other bb (by simpa using h.1.1) (by simpa using h.1.2) (fun hm=>?_) ho;have:=h.2;rw[uO.2 hm]at this;cases this
def ao4(hs:listed.size=ops.size)(hn:Nat.blt i ops.size=true)(hI:oV listed env Z)(hi:r4[i]?=some (some t))(ht:(Nat.blt 6 t||t==0)=true)(hN:eF KF.N (some t)=true)(ho:o.dst=some t)(hg:o.guard=none)(hV:Bk i d)(hf:LY i=true)(hz:vm i=true)(hq:aq prog o env Z d Z):ug listed env Z i o ops:=by
 have bb:i<listed.size:=by rw[hs];simpa[jE]using hn
 unfold LY at hf;rw[bd]at hf;refine⟨d,Z,(t,d)::env,Z,by rw[ho];exact hN,vo hg,hq,by rw[ho];exact Le.refl _ _ _,hI.aB.put DY bb hi hV,hI.cZ.put ht,Ic hI bb hf.1 rfl,fun q hq=>?_,CL hI.sQ bb hz⟩;obtain⟨h1,h2,h3⟩:=MQ.zj (de.1 hf.2 q hq);exact(hI.vg q hq).other bb h1 h2 h3 rfl
def zk(i:Nat)(q:MQ):Bool:=!(i==0)&&!(i==1000)&&!(nS.map (·.1)).contains i&&!(q.id==50)&&lT.all fun r=>r==q||(r.ok i&&!(r.id==q.id))
def vf{q:MQ}(hs:listed.size=ops.size)(hn:Nat.blt i ops.size=true)(hI:oV listed env Z)(hl:bf listed i=false)(hi:r4[i]?=some (some t))(ht:(Nat.blt 6 t||t==0)=true)(hN:eF KF.N (some t)=true)(ho:o.dst=some t)(hg:o.guard=none)(hV:Bk i (.cL q.id))(hq:q∈lT)(hf:zk i q=true)(hm:i=q.bo)(eJ:(q.ins.map (·.1)).contains i=false)(hz:vm i=true)
  (aU:Z.get q.id=none->aq prog o env Z (.cL q.id) ((q.id,.mp (bP ib bS []))::Z)):ug listed env Z i o ops:=by
 have bb:i<listed.size:=by rw[hs];simpa[jE]using hn
 unfold zk at hf;rw[bd,bd]at hf;have Dj:q.id≠50:=by simpa using hf.1.2
 have qQ:=hI.vg q hq;rw[<-hm]at qQ;refine⟨_,_,(t,.cL q.id)::env,_,by rw[ho];exact hN,vo hg,aU (qQ.no hl).1,by rw[ho];exact Le.refl _ _ _,hI.aB.put DY bb hi hV,hI.cZ.put ht,Ic hI bb hf.1.1 (by rw[ae.bm,aF Dj]),fun r hr=>?_,CL hI.sQ bb hz⟩;have h:=de.1 hf.2 r hr;rw[fZ]at h;rcases h with h|h
 ·obtain rfl:r=q:=by simpa using h
  rw[<-hm];exact qQ.make bb hl (fun hm=>by rw[uO.2 hm]at eJ;cases eJ)
 ·rw[bd]at h;obtain⟨h1,h2,h3⟩:=MQ.zj h.1;have h4:r.id≠q.id:=by simpa using h.2
  exact(hI.vg r hr).other bb h1 h2 h3 (by rw[ae.bm,aF (qc h4)])
def aka{q:MQ}{k:Int}{v:oa}(hs:listed.size=ops.size)(hn:Nat.blt i ops.size=true)(hI:oV listed env Z)(hl:bf listed i=false)(hi:r4[i]?=some none)(ho:o.dst=none)(hg:o.guard=none)(hq:q∈lT)(hf:zk i q=true)(pm:bf listed q.bo=true)(hz:vm i=true)(hm:(i,k)∈q.ins)(aC:(!(i==q.bo)&&!(i==q.fz))=true)(pX:(q.ins.map (·.1)).Nodup)(wW:(q.ins.map (·.2)).Nodup)(hv:(k,v)∈q.E)
  (aU:∀m,Z.get q.id=some (.mp (bP ib bS m))->aq prog o env Z (.raw undef) (Z.set q.id (.mp (bP ib bS (eD m k v))))):ug listed env Z i o ops:=by
 have bb:i<listed.size:=by rw[hs];simpa[jE]using hn
 unfold zk at hf;rw[bd,bd]at hf;rw[bd]at aC;have Dj:q.id≠50:=by simpa using hf.1.2
 have qQ:=hI.vg q hq;have s9:bf listed q.fz=false:=by
  cases e:bf listed q.fz with
  |false=>rfl
  |true=>have:=hI.sQ q hq e _ hm;rw[hl]at this;cases this
 obtain⟨m,g1,g2,g3⟩:=qQ.yes pm s9;refine⟨_,_,env,_,by rw[ho];rfl,vo hg,aU m g1,by rw[ho];exact Le.refl _ _ _,hI.aB.none bb hi,hI.cZ,Ic hI bb hf.1.1 (by rw[ae.ej,aF Dj]),fun r hr=>?_,CL hI.sQ bb hz⟩;have h:=de.1 hf.2 r hr;rw[fZ]at h;rcases h with h|h
 ·obtain rfl:r=q:=by simpa using h
  exact qQ.insert bb hl (by simpa using aC.1) (by simpa using aC.2) hm pX wW g1 g2 g3 hv
 ·rw[bd]at h;obtain⟨h1,h2,h3⟩:=MQ.zj h.1;have h4:r.id≠q.id:=by simpa using h.2
  exact(hI.vg r hr).other bb h1 h2 h3 (by rw[ae.ej,aF (qc h4)])
def uG{q:MQ}(hs:listed.size=ops.size)(hn:Nat.blt i ops.size=true)(hI:oV listed env Z)(hl:bf listed i=false)(hi:r4[i]?=some (some t))(ht:(Nat.blt 6 t||t==0)=true)(hN:eF KF.N (some t)=true)(ho:o.dst=some t)(hg:o.guard=none)(hq:q∈lT)(hf:zk i q=true)(hm:i=q.fz)(pm:bf listed q.bo=true)(Vd:FV listed q.ins)(hE:q.ins.map (·.2)=q.E.map (·.1))
  (hV:∀m,dC q.E m->Bk i (ek m))(aU:aq prog o env Z (.cL q.id) Z):ug listed env Z i o ops:=by
 have bb:i<listed.size:=by rw[hs];simpa[jE]using hn
 unfold zk at hf;rw[bd,bd]at hf;have Dj:q.id≠50:=by simpa using hf.1.2
 have qQ:=hI.vg q hq;obtain⟨m,g1,g2,g3⟩:=qQ.yes pm (by rw[<-hm];exact hl);rw[Sy Vd.all,hE]at g2;refine⟨_,Z,(t,ek m)::(t,.cL q.id)::env,Z.set q.id .dead,by rw[ho];exact hN,vo hg,aU,by rw[ho];exact Le.GW (kD:=ib) (vD:=bS) (m:=m) t q.id (by show Env.get ((t,D.cL q.id)::env) t=_;rw[Env.bm,aV rfl]) g1 (fun _=>rfl) NV,
  (hI.aB.aqT DY hl hi).put DY bb hi (hV m ⟨g2,fun p hp=>g3 p hp⟩),(hI.cZ.put ht).put ht,Ic hI bb hf.1.1 (by rw[ae.ej,aF Dj]),fun r hr=>?_,fun r hr uQ e he=>?_⟩
 rotate_left
 ·have h:=de.1 hf.2 r hr;rw[fZ]at h;rcases h with h|h
  ·obtain rfl:r=q:=by simpa using h
   exact D6 bb (Vd.all e he)
  ·rw[bd]at h;have h2:=(MQ.zj h.1).2.1;rw[fU bb,aF h2]at uQ;exact D6 bb (hI.sQ r hr uQ e he)
 have h:=de.1 hf.2 r hr;rw[fZ]at h;rcases h with h|h
 ·obtain rfl:r=q:=by simpa using h
  subst hm;exact qQ.freeze bb pm
 ·rw[bd]at h;obtain⟨h1,h2,h3⟩:=MQ.zj h.1;have h4:r.id≠q.id:=by simpa using h.2
  exact(hI.vg r hr).other bb h1 h2 h3 (by rw[ae.ej,aF (qc h4)])
def amq(hs:listed.size=ops.size)(hn:Nat.blt 0 ops.size=true)(hI:oV listed env Z)(hl:bf listed 0=false)(hi:r4[0]?=some (some t))(ht:(Nat.blt 6 t||t==0)=true)(hN:eF KF.N (some t)=true)(ho:o.dst=some t)(hg:o.guard=none)(hV:Bk 0 (.cL 50))(hz:vm 0=true)
  (hf:(!(nS.map (·.1)).contains 0&&lT.all fun r=>r.ok 0&&!(r.id==50))=true)(aU:Z.get 50=none->aq prog o env Z (.cL 50) ((50,.mp (bP ib fE []))::Z)):ug listed env Z 0 o ops:=by
 have bb:0<listed.size:=by rw[hs];simpa[jE]using hn
 rw[bd]at hf;refine⟨_,_,(t,.cL 50)::env,_,by rw[ho];exact hN,vo hg,aU (hI.By.no hl).1,by rw[ho];exact Le.refl _ _ _,hI.aB.put DY bb hi hV,hI.cZ.put ht,hI.By.make bb hl (fun hm=>by have:=hf.1;rw[uO.2 hm]at this;cases this),fun r hr=>?_,CL hI.sQ bb hz⟩;have h:=de.1 hf.2 r hr;rw[bd]at h;obtain⟨h1,h2,h3⟩:=MQ.zj h.1;have h4:r.id≠50:=by simpa using h.2
 exact(hI.vg r hr).other bb h1 h2 h3 (by rw[ae.bm,aF (qc h4)])
def akb{k:Int}{v:mz}(hs:listed.size=ops.size)(hn:Nat.blt i ops.size=true)(VE:ops.size=124)(hI:oV listed env Z)(hl:bf listed i=false)(hi:r4[i]?=some none)(ho:o.dst=none)(hg:o.guard=none)(pm:bf listed 0=true)(hm:(i,k)∈nS)(aC:(!(i==0)&&!(i==1000)&&lT.all fun r=>r.ok i&&!(r.id==50))=true)(pX:(nS.map (·.1)).Nodup)(wW:(nS.map (·.2)).Nodup)(hv:sN k v)(hz:vm i=true)
  (aU:∀m,Z.get 50=some (.mp (bP ib fE m))->aq prog o env Z (.raw undef) (Z.set 50 (.mp (bP ib fE (eD m k v))))):ug listed env Z i o ops:=by
 have bb:i<listed.size:=by rw[hs];simpa[jE]using hn
 rw[bd,bd]at aC;have s9:bf listed 1000=false:=by unfold bf;rw[ja,tT zO];rfl
 obtain⟨m,g1,g2,g3⟩:=hI.By.yes pm s9;refine⟨_,_,env,_,by rw[ho];rfl,vo hg,aU m g1,by rw[ho];exact Le.refl _ _ _,hI.aB.none bb hi,hI.cZ,hI.By.insert bb hl (by simpa using aC.1.1) (by simpa using aC.1.2) hm pX wW g1 g2 g3 hv,fun r hr=>?_,CL hI.sQ bb hz⟩;have h:=de.1 aC.2 r hr;rw[bd]at h;obtain⟨h1,h2,h3⟩:=MQ.zj h.1;have h4:r.id≠50:=by simpa using h.2
 exact(hI.vg r hr).other bb h1 h2 h3 (by rw[ae.ej,aF (qc h4)])
end
end Go.T
