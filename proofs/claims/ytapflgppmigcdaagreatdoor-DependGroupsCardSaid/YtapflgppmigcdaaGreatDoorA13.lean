/-
  Contracts of the functions that the statement reaches, and the logic in which they are proved (no condition): parts W73, S5, SpecD5, W74, Core46, SpecD6, W85, Core47, S6, W86, SpecD7, W87, Core35, Core37, Core48, SpecD8.
-/
import Derived.Test.YtapflgppmigcdaaGreatDoorA12
set_option linter.all false
namespace Go.T
open Go Go.Proofs Go.Proofs.Tryz
set_option maxRecDepth 20000
theorem akK:Fc Tryz.prog 173 [] (.agg [.b false,.raw .nilFunc,.b false,.fn (.func 218) [] [],.b true,.fn (.func 219) [] [],.b false,.fn (.func 218) [] [],.b false,.fn (.func 218) [] [],.b true,.fn (.func 220) [] []]):=by
 refine Fc.je func173 rfl ntmps173 rfl rfl rfl ?_;refine go [99999] ?_;refine J.ret (?_);exact Rd.cA results173 isAgg199 sizeOf199 rfl rfl rfl (Sub.agg (.r (.cons (Sub.refl _) (.r (.cons (Sub.refl _) (.r (.cons (Sub.refl _) (.r (.cons (Sub.refl _) (.r (.cons (Sub.refl _) (.r (.r .nil)))))))))))))
def sO(k:Int):FuncId:=if k=2 then 219 else if k=5 then 220 else 218
theorem akL{k:Int}(h1:1≤k)(h5:k≤5):(List.drop (k.toNat*2) [D.b false,D.raw .nilFunc,D.b false,D.fn (.func 218) [] [],D.b true,D.fn (.func 219) [] [],D.b false,D.fn (.func 218) [] [],D.b false,D.fn (.func 218) [] [],D.b true,D.fn (.func 220) [] []]).take 2=[.b (yb k),.fn (.func (sO k)) [] []]:=by
 have:k=1∨k=2∨k=3∨k=4∨k=5:=by omega
 rcases this with rfl|rfl|rfl|rfl|rfl<;>rfl
theorem akJ(k:Int):∀(args:Array Value)(w:World),(callFunc (sO k) args).run Tryz.prog w=.ok (.enter (sO k) args) w:=by
 unfold sO;split
 ·exact call219
 ·split
  ·exact call220
  ·exact call218
theorem akI(k:Int)(i:aW)(hs:p8 i):Fc Tryz.prog (sO k) [.agg (gA i)] (.i (vo k i)):=by
 unfold sO vo;split
 ·exact YD i hs
 ·split
  ·exact acS i hs
  ·exact ajp i hs
structure afo(i:aW)where
 pre:List aM
 rest:List aM
 hx:[i.fk,i.fh,i.e_]=pre++rest
 hp:iU (vo i.kind i) [i.fk,i.fh,i.e_]=iU (vo i.kind i) rest
theorem afn(i:aW)(hs:p8 i):Fc Tryz.prog 118 [.agg (gA i)] (.i (kc i)):=by
 refine Fc.mk' [2] func118 rfl ntmps118 rfl rfl rfl (fun t w=>results_tmp results118 t _ w) ?_;refine go [11] ?_;refine oP (ai call86 rfl (zr _)) ?_;refine br (fun h1=>?_) (fun h1=>?_)
 ·exact ah rfl (Sub.int (by unfold kc;exact iS h1))
 ·skip
  skip;refine br (fun h2=>?_) (fun h2=>?_)
  ·exact ah rfl (Sub.int (by unfold kc;exact cW h1 (iS h2)))
  ·have de:=h2;try simp only[bs]at de
   refine oP (ai call171 rfl (R2 _)) ?_;refine br (fun h3=>?_) (fun h3=>?_)
   ·exact ah rfl (Sub.int (by unfold kc;exact cW h1 (cW h2 (iS h3))))
   ·refine br (fun h4=>?_) (fun h4=>?_)
    ·exact ah rfl (Sub.int (by unfold kc;exact cW h1 (cW h2 (cW h3 (iS h4)))))
    ·refine oP (ai call172 rfl (W1 _)) ?_;refine br (fun h5=>?_) (fun h5=>?_)
     ·exact ah rfl (Sub.int (by unfold kc;exact cW h1 (cW h2 (cW h3 (cW h4 (iS h5))))))
     ·refine J.bE (Le.fY 1 0 rfl rfl rfl rfl) ?_;refine go [] ?_;refine oP (ai call173 rfl akK) ?_;refine oP (Vq (r:=[.b (yb i.kind),.fn (.func (sO i.kind)) [] []]) underlying199 isAgg198 sizeOf198 rfl rfl zO zO zQ (akL zO zO)) ?_;refine ord ?_;refine gP (fun hg=>ai call172 rfl (W1 _)) ?_;refine br (fun h6=>?_) (fun h6=>?_)
      ·exact ah rfl (Sub.int (by unfold kc;exact cW h1 (cW h2 (cW h3 (cW h4 (cW h5 (iS h6)))))))
      ·refine oP (bK (n:=3) (rows:=[cj i.fk,cj i.fh,cj i.e_]) underlying116 sizeOf35 rfl rfl rfl zeroValue35 rfl rfl rfl rfl rfl rfl rfl) ?_;refine J.loop (ι:=afo i) (fun sx=>[(1,.bc (gA i)),(3,.box 1 0),(75,.snap 2 true ([i.fk,i.fh,i.e_].map cj)),(76,.i 3),(77,.i sx.pre.length)]) (fun sx=>[(1,.cells [.b (yb i.kind),.fn (.func (sO i.kind)) [] []])]) (fun sx=>sx.rest.length) ⟨[],_,rfl,rfl⟩ ?_ ?_
       ·exact Le.mk rfl (.s rfl rfl (.s rfl rfl (.s rfl rfl (.s rfl rfl (.s rfl rfl .nil))))) (.cons rfl rfl .nil)
       ·rintro⟨pre,rest,hx,hp⟩;show J _ _ _ _ [(1,.bc (gA i)),(3,.box 1 0),(75,.snap 2 true ([i.fk,i.fh,i.e_].map cj)),(76,.i 3),(77,.i pre.length)] [(1,.cells [.b (yb i.kind),.fn (.func (sO i.kind)) [] []])];have hl:=congrArg List.length hx;simp only[List.length_append,List.length_cons,List.length_nil]at hl;rcases rest with _|⟨x,rest⟩
        ·skip;refine go [11] ?_;refine a_ (by simp at hl⊢;omega) ?_;refine go [11] ?_;refine oP (ek (akJ i.kind) rfl rfl (akI i.kind i hs)) ?_;exact ah rfl (Sub.int (by unfold kc;exact cW h1 (cW h2 (cW h3 (cW h4 (cW h5 (cW h6 hp.symm)))))))
        ·simp only[List.length_cons]at hl;have j7:=K3 hx;refine go [11] ?_;refine bk zQ ?_;refine ix zO (aS cj hx rfl) ?_;refine oP (ai call174 rfl (aif x (by rcases j7 with rfl|rfl|rfl;exact hs.1;exact hs.2.1;exact hs.2.2))) ?_;refine br (fun h7=>?_) (fun h7=>?_)
         ·exact ah rfl (Sub.int (by unfold kc;exact cW h1 (cW h2 (cW h3 (cW h4 (cW h5 (cW h6 (aip hp h7))))))))
         ·refine sd (aw zO) ?_;exact nx ⟨pre++[x],rest,by simp[hx],aio hp h7⟩ zS (Le.mk rfl (.s rfl rfl (.s rfl rfl (.s rfl rfl (.s rfl rfl (.cons rfl (Sub.int zS) rfl .nil))))) (.cons rfl rfl .nil))
structure Sj(i:aW)(t:List bA)where
 pre:List aa
 rest:List aa
 hx:ll i=pre++rest
 hp:pre.any (fun c=>!(mb c t).2)=false
theorem af_(i:aW)(t:List bA):Fc Tryz.prog 119 [.agg (gA i),fM t] (.i (BL i t)):=by
 refine Fc.mk' [4] func119 rfl ntmps119 rfl rfl rfl (fun t w=>results_tmp results119 t _ w) ?_;have uD:(ll i).length≤2:=by unfold ll;split<;>simp
 refine go [] ?_;refine oP (bK (n:=1) (rows:=[[D.str i.cur]]) underlying48 sizeOf9 rfl rfl rfl zeroValue9 rfl rfl rfl rfl rfl rfl rfl) ?_;refine br (fun h1=>?_) (fun h1=>?_)
 ·refine oP (bK (n:=1) (rows:=[[D.str i.other]]) underlying48 sizeOf9 rfl rfl rfl zeroValue9 rfl rfl rfl rfl rfl rfl rfl) ?_;refine oP (Vj underlying48 underlying48 sizeOf9 typeInfo9 zeroValue9 rfl (bt:=16) rfl rfl rfl rfl zS zS) ?_;refine J.loop (ι:=Sj i t) (fun sx=>[(1,fM t),(21,.snap 1 false ((ll i).map fun s=>[D.str s])),(22,.i (ll i).length),(23,.i sx.pre.length)]) (fun sx=>[]) (fun sx=>sx.rest.length) ⟨[],_,rfl,rfl⟩ ?_ ?_
  ·exact Le.mk rfl (.s rfl rfl (.cons rfl (Sub.snap (by(unfold ll;(rw[if_pos (by simpa using h1)];rfl)))) rfl (.cons rfl (Sub.int (by(unfold ll;(rw[if_pos (by simpa using h1)];rfl)))) rfl (.s rfl rfl .nil)))) .nil
  ·rintro⟨pre,rest,hx,hp⟩;show J _ _ _ _ [(1,fM t),(21,.snap 1 false ((ll i).map fun s=>[D.str s])),(22,.i (ll i).length),(23,.i pre.length)] [];have hl:=congrArg List.length hx;simp only[List.length_append]at hl;rcases rest with _|⟨x,rest⟩
   ·skip;refine go [] ?_;refine a_ (by simp at hl⊢;omega) ?_;refine go [] ?_;exact ah rfl (Sub.int (by exact cW (mO hx hp) rfl))
   ·simp only[List.length_cons]at hl;refine go [] ?_;refine bk zQ ?_;refine ix zO (aS (fun s=>[D.str s]) hx rfl) ?_;refine oP (ai call170 rfl (IG t x)) ?_;refine br (fun h2=>?_) (fun h2=>?_)
    ·exact ah rfl (Sub.int (by exact iS (nD hx zA)))
    ·refine sd (aw zO) ?_;exact nx ⟨pre++[x],rest,by simp[hx],iZ hp zA⟩ zS (Le.mk rfl (.s rfl rfl (.cons rfl (Sub.refl _) rfl (.s rfl rfl (.cons rfl (Sub.int zS) rfl .nil)))) .nil)
 ·refine J.loop (ι:=Sj i t) (fun sx=>[(1,fM t),(21,.snap 1 false ((ll i).map fun s=>[D.str s])),(22,.i (ll i).length),(23,.i sx.pre.length)]) (fun sx=>[]) (fun sx=>sx.rest.length) ⟨[],_,rfl,rfl⟩ ?_ ?_
  ·exact Le.mk rfl (.s rfl rfl (.cons rfl (Sub.snap (by(unfold ll;(rw[if_neg (by simpa using h1)];rfl)))) rfl (.cons rfl (Sub.int (by(unfold ll;(rw[if_neg (by simpa using h1)];rfl)))) rfl (.s rfl rfl .nil)))) .nil
  ·rintro⟨pre,rest,hx,hp⟩;show J _ _ _ _ [(1,fM t),(21,.snap 1 false ((ll i).map fun s=>[D.str s])),(22,.i (ll i).length),(23,.i pre.length)] [];have hl:=congrArg List.length hx;simp only[List.length_append]at hl;rcases rest with _|⟨x,rest⟩
   ·skip;refine go [] ?_;refine a_ (by simp at hl⊢;omega) ?_;refine go [] ?_;exact ah rfl (Sub.int (by exact cW (mO hx hp) rfl))
   ·simp only[List.length_cons]at hl;refine go [] ?_;refine bk zQ ?_;refine ix zO (aS (fun s=>[D.str s]) hx rfl) ?_;refine oP (ai call170 rfl (IG t x)) ?_;refine br (fun h3=>?_) (fun h3=>?_)
    ·exact ah rfl (Sub.int (by exact iS (nD hx zA)))
    ·refine sd (aw zO) ?_;exact nx ⟨pre++[x],rest,by simp[hx],iZ hp zA⟩ zS (Le.mk rfl (.s rfl rfl (.cons rfl (Sub.refl _) rfl (.s rfl rfl (.cons rfl (Sub.int zS) rfl .nil)))) .nil)
structure Zd(l:List aW)(t:List bA)where
 pre:List aW
 rest:List aW
 hx:l=pre++rest
 hp:kU l t=rG t pre rest
theorem Zc(l:List aW)(t:List bA)(hs:∀x∈l,p8 x):Fc Tryz.prog 85 [iW l,fM t] (.i (kU l t)):=by
 refine Fc.mk' [4] func85 rfl ntmps85 rfl rfl rfl (fun t w=>results_tmp results85 t _ w) ?_;refine J.eu 0 rfl (fun hb=>?_);simp only[List.length_map,aG]at hb;refine go [11] ?_;refine oP (ai call117 rfl (Zi _)) ?_;refine br (fun h1=>?_) (fun h1=>?_)
 ·exact ah rfl (Sub.int (by exact iS h1))
 ·refine br (fun h2=>?_) (fun h2=>?_)
  ·exact ah rfl (Sub.int (by exact cW h1 (iS (by simpa using h2))))
  ·refine J.loop (ι:=Zd l t) (fun sx=>[(1,fM t),(0,iW l),(17,iW l),(18,.i l.length),(19,.i sx.pre.length)]) (fun sx=>[]) (fun sx=>sx.rest.length) ⟨[],l,rfl,RZ h1 (by simpa using h2)⟩ ?_ ?_
   ·exact Le.mk rfl (.s rfl rfl (.s rfl rfl (.s rfl rfl (.cons rfl (Sub.int zS) rfl (.s rfl rfl .nil))))) .nil
   ·rintro⟨pre,rest,hx,hp⟩;show J _ _ _ _ [(1,fM t),(0,iW l),(17,iW l),(18,.i l.length),(19,.i pre.length)] [];have hl:=congrArg List.length hx;simp only[List.length_append]at hl;rcases rest with _|⟨x,rest⟩
    ·skip;refine go [11] ?_;refine a_ (by simp at hl⊢;omega) ?_;refine go [11] ?_;exact ah rfl (Sub.int (by exact hp.symm))
    ·simp only[List.length_cons]at hl;refine go [11] ?_;refine bk zQ ?_;refine ix zO (aS gA hx rfl) ?_;refine oP (ai call118 rfl (afn x (hs x (by rw[hx];simp)))) ?_;refine br (fun h3=>?_) (fun h3=>?_)
     ·exact ah rfl (Sub.int (by exact y4 hp (RN h3) h3))
     ·refine J.bE (Le.fY 6 0 rfl rfl rfl rfl) ?_;refine go [] ?_;refine oP (oT underlying23 sizeOf65 rfl (l:=0) (h:=pre.length) (r:=pre.map gA) (.inl ⟨rfl,rfl⟩) (.inr ⟨_,_,rfl,rfl⟩) zO (by simp[hx]) (by rw[hx];simp)) ?_;refine oP (ai call111 rfl (acH pre x.id)) ?_;refine ord ?_;refine br (fun h4=>?_) (fun h4=>?_)
      ·exact ah rfl (Sub.int (by exact y4 hp (RO h3 h4) rfl))
      ·refine oP (ai call119 rfl (af_ x t)) ?_;refine br (fun h5=>?_) (fun h5=>?_)
       ·exact ah rfl (Sub.int (by exact y4 hp (Fa h3 h4) h5))
       ·refine go [11] ?_;refine sd (aw zO) ?_;exact nx ⟨pre++[x],rest,by simp[hx],R0 hp (Fa h3 h4) h5⟩ zS (Le.mk rfl (.s rfl rfl (.s rfl rfl (.s rfl rfl (.s rfl rfl (.cons rfl (Sub.int zS) rfl .nil))))) .nil)
theorem VV(s:Setup)(hs:∀x∈s.insts,p8 x):Fc Tryz.prog 41 [.agg (fC s)] (.b (decide (kU s.insts s.oo=0))):=by
 refine Fc.mk' [2] func41 rfl ntmps41 rfl rfl rfl (fun t w=>results_tmp results41 t _ w) ?_;refine go [] ?_;refine oP (ai call85 rfl (Zc s.insts s.oo hs)) ?_;exact ah rfl (Sub.refl _)
end Go.T
namespace Go.T
open Go Go.Proofs Go.Shelf Go.RowKit
@[reducible] def xW:aa:=[65,66,67,68,69,70,71,72,73,74,75,76,77,78,79,80,81,82,83,84,85,86,87,88,89,90]
theorem YV(c:UInt8):xW.contains c=(decide (65≤c.toNat)&&decide (c.toNat≤90)):=by
 have h:∀n:Fin 256,xW.contains (UInt8.ofNat n.1)=(decide (65≤(UInt8.ofNat n.1).toNat)&&decide ((UInt8.ofNat n.1).toNat≤90)):=by decide+kernel
 have:=h ⟨c.toNat,c.toNat_lt⟩;simpa using this
def vz(s:aa):aa:=Lib.trimS s xW
theorem ang(s:aa):decide (vz s=[])=s.all (fun c=>decide (65≤c.toNat)&&decide (c.toNat≤90)):=by
 have hp:(xW.contains ·)=fun c=>decide (65≤c.toNat)&&decide (c.toNat≤90):=funext YV;have key:vz s=[]↔s.all (fun c=>decide (65≤c.toNat)&&decide (c.toNat≤90))=true:=by
  unfold vz Lib.trimS Lib.trimLeftS Lib.trimRightS;rw[hp,D0,List.all_reverse];constructor
  ·intro h;have:=OV _ s.reverse h;rwa[List.all_reverse]at this
  ·intro h;rw[(D0 _ s.reverse).2 (by rwa[List.all_reverse])];rfl
 by_cases h:vz s=[]
 ·rw[key.1 h];simp[h]
 ·have:s.all (fun c=>decide (65≤c.toNat)&&decide (c.toNat≤90))=false:=by
   cases e:s.all (fun c=>decide (65≤c.toNat)&&decide (c.toNat≤90))with
   |false=>rfl
   |true=>exact absurd (key.2 e) h
  rw[this];simp[h]
theorem anf(s:aa):(vz s).length≤s.length:=by
 unfold vz Lib.trimS Lib.trimLeftS Lib.trimRightS;refine Nat.le_trans (DZ _ _) ?_;rw[List.length_reverse];refine Nat.le_trans (DZ _ _) zS
theorem anh(s:aa):Fc Tryz.prog 180 [.str s,.str xW] (.str (vz s)):=.pU fun w O ρ vals _ hv=>by
 obtain⟨rfl,hb,_⟩:=hv.C1;refine(Any.strings_Trim_laid Tryz.Sv (by kernel_rfl) ⟨s.toArray⟩ ⟨xW.toArray⟩ w (by simp[ByteArray.size];unfold aG at hb;omega) zD (ascii_of_all zD)).mono ?_;rintro e w' ⟨rfl,hw⟩;refine⟨_,rfl,?_,fO.below hw⟩;have:=anf s;simp only[V];exact⟨rfl,by omega⟩
end Go.T
namespace Go.T
open Go
def EH(s p:aa):Bool:=decide ((p.length:Int)≤s.length)&&decide (s.take p.length=p)
def ko(s p:aa):aa:=if EH s p=true then s.drop p.length else s
theorem afH(s:aa):(decide ((s.length:Int)=3)&&decide (vz s=[]))=fF s:=by
 rw[ang];unfold fF;by_cases h:s.length=3
 ·simp[h]
 ·have:¬((s.length:Int)=3):=by omega
  simp[h,this]
def jE{α:Type}[DecidableEq α](a b:List α):Bool:=decide (a=b)
theorem D6{α:Type}{a b:List α}[DecidableEq α](h:a.length≠b.length):false=jE a b:=by
 unfold jE;rw[decide_eq_false];intro e;exact h (congrArg List.length e)
theorem D7{α:Type}{a b p q:List α}{x y:α}{r t:List α}[DecidableEq α](h:a=p++x::r)(h2:b=q++y::t)(hl:q.length=p.length)(hn:x≠y):false=jE a b:=by
 unfold jE;rw[decide_eq_false];rintro e;rw[h,h2]at e;have:=List.append_inj e hl.symm;exact hn (List.cons.inj this.2).1
theorem D5{α:Type}{a b p q:List α}[DecidableEq α](h:a=p++[])(h2:b=q++[])(hp:p=q):true=jE a b:=by
 subst h;subst h2;subst hp;simp[jE]
open Go.Proofs Go.Proofs.Tryz
set_option maxRecDepth 20000
theorem ad7(s p:aa):Fc Tryz.prog 314 [.str s,.str p] (.b (EH s p)):=by
 refine Fc.mk' [4] func314 rfl ntmps314 rfl rfl rfl (fun t w=>results_tmp results314 t _ w) ?_;refine J.l4 0 rfl (fun hb=>?_);simp only[aG]at hb;refine go [] ?_;refine gP (fun hg=>r7 underlying9 rfl (l:=0) (h:=p.length) (r:=s.take p.length) (.inl ⟨rfl,rfl⟩) (.inr ⟨_,_,rfl,rfl⟩) zO (by simp[pa]at hg;omega) zS) ?_;exact ah rfl (Sub.refl _)
theorem anl(s p:aa):Fc Tryz.prog 272 [.str s,.str p] (.str (ko s p)):=by
 refine Fc.mk' [4] func272 rfl ntmps272 rfl rfl rfl (fun t w=>results_tmp results272 t _ w) ?_;refine go [] ?_;refine oP (ai call314 rfl (ad7 _ _)) ?_;refine br (fun h1=>?_) (fun h1=>?_)
 ·refine oP (r7 underlying9 rfl (l:=p.length) (h:=s.length) (r:=s.drop p.length) (.inr ⟨_,_,rfl,rfl⟩) (.inl ⟨rfl,rfl⟩) (by simp[EH]at h1;omega) zO (by rw[List.take_of_length_le];simp)) ?_;exact ah rfl (Sub.str (by unfold ko;rw[if_pos h1]))
 ·exact ah rfl (Sub.str (by unfold ko;rw[if_neg (by rw[h1];simp)]))
theorem anm(s p:aa):Fc Tryz.prog 225 [.str s,.str p] (.str (ko s p)):=by
 refine Fc.mk' [4] func225 rfl ntmps225 rfl rfl rfl (fun t w=>results_tmp results225 t _ w) ?_;refine go [] ?_;refine oP (ai call272 rfl (anl _ _)) ?_;exact ah rfl (Sub.refl _)
theorem Pr(a:aa):Fc Tryz.prog 178 [.str a] (.i (ko a [45]).length):=by
 refine Fc.mk' [2] func178 rfl ntmps178 rfl rfl rfl (fun t w=>results_tmp results178 t _ w) ?_;refine go [] ?_;refine oP (ai call225 rfl (anm _ _)) ?_;exact ah rfl (Sub.refl _)
theorem GQ(a:aa):Fc Tryz.prog 184 [.str a] (.agg (cj ⟨a,[]⟩)):=by
 refine Fc.je func184 rfl ntmps184 rfl rfl rfl ?_;refine go [99999] ?_;refine J.ret (?_);exact Rd.cA results184 isAgg35 sizeOf35 rfl rfl rfl (Sub.agg (.r (.r .nil)))
theorem ahU(s:aa):Fc Tryz.prog 124 [.str s] (.i (if(!isName s)=true then 23 else 0)):=by
 refine Fc.mk' [2] func124 rfl ntmps124 rfl rfl rfl (fun t w=>results_tmp results124 t _ w) ?_;refine go [] ?_;refine oP (ai call86 rfl (zr _)) ?_;refine br (fun h1=>?_) (fun h1=>?_)
 ·exact ah rfl (Sub.int (by exact iS h1))
 ·exact ah rfl (Sub.int (by exact cW h1 rfl))
theorem Fb(s:aa):Fc Tryz.prog 125 [.str s] (.b (fF s)):=by
 refine Fc.mk' [2] func125 rfl ntmps125 rfl rfl rfl (fun t w=>results_tmp results125 t _ w) ?_;refine go [] ?_;refine gP (fun hg=>ai call180 rfl (anh _)) ?_;exact ah rfl (Sub.bool (by exact afH s))
theorem akT(x p:du):Fc Tryz.prog 183 [.agg (jX x),.bc (jX p)] (.b (decide (x.gb=p.gb))):=by
 refine Fc.mk' [3] func183 rfl ntmps183 rfl rfl rfl (fun t w=>results_tmp results183 t _ w) ?_;refine go [] ?_;exact ah rfl (Sub.refl _)
structure afb(l:List du)(P:du→Bool)where
 pre:List du
 rest:List du
 hx:l=pre++rest
 hp:pre.any P=false
theorem afa(l:List du)(f:FuncId)(bC:List D)(cJ:D.bz.ec bC=true)(P:du→Bool)(fc:∀(args:Array Value)(w:World),(callFunc f args).run Tryz.prog w=.ok (.enter f args) w)(hP:∀x∈l,Fc Tryz.prog f (.agg (jX x)::bC) (.b (P x))):Fc Tryz.prog 236 [mH l,.fn (.func f) [] bC] (.i (jq P l)):=by
 refine Fc.mk' [4] func236 rfl ntmps236 rfl (by simp[D.bz,D.bz.ec,cJ]) rfl (fun t w=>results_tmp results236 t _ w) ?_;refine J.eu 0 rfl (fun hb=>?_);simp only[List.length_map,aG]at hb;refine go [] ?_;refine J.loop (ι:=afb l P) (fun sx=>[(0,mH l),(1,.fn (.func f) [] bC),(6,mH l),(7,.i l.length),(8,.i sx.pre.length)]) (fun sx=>[]) (fun sx=>sx.rest.length) ⟨[],l,rfl,rfl⟩ ?_ ?_
 ·exact Le.mk rfl (.s rfl rfl (.cons rfl (Sub.refl _) (pV cJ) (.s rfl rfl (.cons rfl (Sub.int zS) rfl (.s rfl rfl .nil))))) .nil
 ·rintro⟨pre,rest,hx,hp⟩;show J _ _ _ _ [(0,mH l),(1,.fn (.func f) [] bC),(6,mH l),(7,.i l.length),(8,.i pre.length)] [];have hl:=congrArg List.length hx;simp only[List.length_append]at hl;rcases rest with _|⟨x,rest⟩
  ·skip;refine go [] ?_;refine a_ (by simp at hl⊢;omega) ?_;refine go [] ?_;exact ah rfl (Sub.int (by exact sM hx hp))
  ·simp only[List.length_cons]at hl;refine go [] ?_;refine bk zQ ?_;refine ix zO (aS jX hx rfl) ?_;refine oP (ek fc rfl rfl (hP x (by rw[hx];simp))) ?_;refine br (fun h1=>?_) (fun h1=>?_)
   ·exact ah rfl (Sub.int (by exact sN hx hp h1))
   ·refine sd (aw zO) ?_;exact nx ⟨pre++[x],rest,by simp[hx],iZ hp h1⟩ zS (Le.mk rfl (.s rfl rfl (.cons rfl (Sub.refl _) (pV cJ) (.s rfl rfl (.s rfl rfl (.cons rfl (Sub.int zS) rfl .nil))))) .nil)
theorem ZM(l:List du)(f:FuncId)(bC:List D)(cJ:D.bz.ec bC=true)(P:du→Bool)(fc:∀(args:Array Value)(w:World),(callFunc f args).run Tryz.prog w=.ok (.enter f args) w)(hP:∀x∈l,Fc Tryz.prog f (.agg (jX x)::bC) (.b (P x))):Fc Tryz.prog 182 [mH l,.fn (.func f) [] bC] (.b (l.any P)):=by
 refine Fc.mk' [4] func182 rfl ntmps182 rfl (by simp[D.bz,D.bz.ec,cJ]) rfl (fun t w=>results_tmp results182 t _ w) ?_;refine go [] ?_;refine oP (ai call236 rfl (afa l f bC cJ P fc hP)) ?_;exact ah rfl (Sub.bool (by exact ux P l))
end Go.T
namespace Go.T
open Go
variable[bX]
theorem M_{w:World}{O:Nat→Prop}{ρ:az}:∀{ds:List D}{vs:List Value}{i:Nat}{d:D},Vs w O ρ ds vs→ds[i]?=some d→∃v,vs[i]?=some v∧V w O ρ d v
 |[],vs,i,d,_,h=>by simp at h
 |e::ds,vs,0,d,h,hd=>by
  simp only[Vs]at h;obtain⟨u,us,rfl,h1,_⟩:=h;simp at hd;subst hd;exact⟨u,by simp,h1⟩
 |e::ds,vs,i+1,d,h,hd=>by
  simp only[Vs]at h;obtain⟨u,us,rfl,_,h2⟩:=h;obtain⟨v,h3,h4⟩:=M_ h2 (by simpa using hd);exact⟨v,by simpa using h3,h4⟩
theorem ajM{P:Program}{env:Env}{dst:Option Tmp}{ty:TypeId}{pos:String}{ar:Array Edge}{g:Option (Nat×Bool)}{t e:TypeId}{x y:Operand}{n:Nat}{k:IntKind}{i:Int}{cs:List D}{r:D}(hu:P.underlying t=some (.array n e))(ha:∀w,(isAgg e).run P w=.ok false w)(hs:∀w,(sizeOf e).run P w=.ok 1 w)
  (hx:env.op x=some (.agg cs))(hy:env.op y=some (.raw (.int k i)))(h0:0≤i)(hi:i<n)(hr:cs[i.toNat]?=some r)(U:ae):
  aq P ⟨dst,.index t x y,ty,pos,ar,g⟩ env U r U:=
 .val fun O ρ a w _ hv=>by
  have h1:=hv x (by simp[Op.operands]) _ hx;have h2:=hv y (by simp[Op.operands]) _ hy;simp only[V]at h1 h2;obtain⟨vs,e1,h3⟩:=h1;obtain⟨v,h4,h5⟩:=M_ h3 hr;have h6:vs[i.toNat]?=some v:=by simpa using h4
  refine⟨v,?_,h5⟩;simp[execOp,Instr.index,h2,asIntOf,ca hu,e1,h0,hi,hs,part,ha,h6]
end Go.T
namespace Go.T
open Go
theorem iT{α:Type}{b:Bool}{x y:α}(h:b=true):x=if b=true then x else y:=by rw[if_pos h]
theorem iF{α:Type}{b:Bool}{x y z:α}(h:b=false)(k:z=y):z=if b=true then x else y:=by rw[if_neg (by rw[h];simp)];exact k
def e6(pos part:Bool)(f:aM):Int:=ta pos part f (Fq pos part f) (decide (40<((ko f.num [45]).length:Int))||decide (40<((ko f.den [45]).length:Int)))
def jk(f:Fact)(n:Int):aM:=
 if n=4 then⟨f.dm,[]⟩else if n=5 then⟨f.mN,[]⟩else if n=6 then⟨f.mU,[]⟩else if n=7 then f.d_ else if n=8 then f.ratio else if n=9 then f.share else c6
@[reducible] def abA(f:Fact):List D:=[.str [],.str [],.str [],.str [],.str [],.str [],.str [],.str [],.str f.dm,.str [],.str f.mN,.str [],.str f.mU,.str [],.str f.d_.num,.str f.d_.den,.str f.ratio.num,.str f.ratio.den,.str f.share.num,.str f.share.den,.str [],.str [],.str [],.str [],.str [],.str []]
theorem anK{f:Fact}{n:Int}(h0:0≤n)(h1:n<13):((abA f).drop (n.toNat*2)).take 2=cj (jk f n):=by
 have:n=0∨n=1∨n=2∨n=3∨n=4∨n=5∨n=6∨n=7∨n=8∨n=9∨n=10∨n=11∨n=12:=by omega
 rcases this with rfl|rfl|rfl|rfl|rfl|rfl|rfl|rfl|rfl|rfl|rfl|rfl|rfl<;>rfl
theorem Ej(f g:aM):decide ([f.num,f.den]=[g.num,g.den])=decide (f=g):=by
 rw[decide_eq_decide];cases f;cases g;simp
def dT(f:Fact)(n:Int):Bool:=
 if decide (n=0)=true then decide (f.dM=[])else if decide (n=1)=true then decide (f.other=[])else if decide (n=2)=true then decide (f.cur=[])else if decide (n=3)=true then decide (f.target=[])
 else if decide (n=10)=true then decide ((f.fL.length:Int)=0)else if decide (n=11)=true then decide ((f.opts.length:Int)=0)else if decide (n=12)=true then decide (f.choice=0)else decide (jk f n=c6)
theorem ajk{x y:du}(h:(!decide ([x.gb,x.dm]=[y.gb,y.dm]))=false):x=y:=by
 cases x;cases y;simpa using h
theorem ajl{x y:du}(h:(!decide ([x.gb,x.dm]=[y.gb,y.dm]))=true):¬x=y:=by
 rintro rfl;simp at h
@[reducible] def xh(x:cT):List aa:=[x.other,x.ratio.num,x.ratio.den,x.d_.num,x.d_.den,x.value.num,x.value.den]
theorem aiO{x y:cT}(h:(!decide (xh x=xh y))=false):x=y:=by
 rcases x with⟨a,⟨b,c⟩,⟨d,e⟩,⟨f,g⟩⟩;rcases y with⟨a',⟨b',c'⟩,⟨d',e'⟩,⟨f',g'⟩⟩;simp[xh]at h;obtain⟨rfl,rfl,rfl,rfl,rfl,rfl,rfl⟩:=h;rfl
theorem aiP{x y:cT}(h:(!decide (xh x=xh y))=true):¬x=y:=by
 rintro rfl;simp at h
theorem DK{α:Type}{l:List α}{n:Nat}(h:l.length=n+1):∃y r,l=y::r:=by
 cases l with
 |nil=>simp at h
 |cons y r=>exact⟨y,r,rfl⟩
def Ah(a b:Fact):Bool:=decide (a.key=b.key)&&decide (a.lW=b.lW)&&(a.cancelled==b.cancelled)&&decide (a.day=b.day)&&decide (a.kind=b.kind)&&decide (a.dM=b.dM)&&decide (a.other=b.other)&&decide (a.cur=b.cur)&&decide (a.target=b.target)
 &&decide (a.dm=b.dm)&&decide (a.mN=b.mN)&&decide (a.mU=b.mU)&&decide ([a.d_.num,a.d_.den]=[b.d_.num,b.d_.den])&&decide ([a.ratio.num,a.ratio.den]=[b.ratio.num,b.ratio.den])&&decide ([a.share.num,a.share.den]=[b.share.num,b.share.den])
 &&jE a.fL b.fL&&jE a.opts b.opts&&decide (a.choice=b.choice)
open Go.Proofs Go.Proofs.Tryz
set_option maxRecDepth 20000
theorem aiF(a b c d:aa)(ha:a.length≤1000)(hb:b.length≤1000)(hc:c.length≤1000)(hd:d.length≤1000):Fc Tryz.prog 307 [.str a,.str b,.str c,.str d,.bc [.fn (.func 305) [] []]] (.bj [.str (ofInt (val a*val d-val c*val b)),.str (ofInt (val b*val d))]):=by
 refine Fc.mk' [9,10] func307 rfl ntmps307 rfl rfl rfl (fun t w=>results_tmp2 results307 t _ w) ?_;have h1:=FJ a d;have h2:=FJ c b;have h3:=FJ b d;refine go [] ?_;refine oP (ek call305 rfl rfl (La _ _ zO zO)) ?_;refine oP (ek call305 rfl rfl (La _ _ zO zO)) ?_;refine oP (ai call308 rfl (alM _ _ zO zO)) ?_;refine oP (ek call305 rfl rfl (La _ _ zO zO)) ?_;refine ord ?_;exact fu rfl rfl (Sub.str (by rw[gp,gp])) (Sub.refl _)
theorem aiH:Fc Tryz.prog 270 [] (.agg [.fn (.func 306) [] [.bc [.fn (.func 305) [] []]],.fn (.func 307) [] [.bc [.fn (.func 305) [] []]],.fn (.func 309) [] [.bc [.fn (.func 305) [] []]],.fn (.func 310) [] [.bc [.fn (.func 305) [] []]]]):=by
 refine Fc.je func270 rfl ntmps270 rfl rfl rfl ?_;refine go [2,99999] ?_;refine J.bE (Le.fY 1 1 rfl rfl rfl rfl) ?_;refine go [99999] ?_;refine J.ret (?_);exact Rd.cA results270 isAgg279 sizeOf279 rfl rfl rfl (Sub.agg (.r (.cons (Sub.refl _) (.r (.r .nil)))))
theorem Yd(f g:aM)(hf:f.num.length≤900∧f.den.length≤900)(hg:g.num.length≤900∧g.den.length≤900):Fc Tryz.prog 269 [.fn (.func 307) [] [.bc [.fn (.func 305) [] []]],.agg (cj f),.agg (cj g)] (.agg (cj (xD f g))):=by
 refine Fc.je func269 rfl ntmps269 rfl rfl rfl ?_;obtain⟨mo,bN,yK,Q4⟩:=MD hf hg zD;have hm1:=Av (zp (bH f).1 (bH g).2) (k:=1800) zO;have hm2:=Av (zp (bH g).1 (bH f).2) (k:=1800) zO;have hs:=ait hm1 hm2;have JX:=FJ (bH f).2 (bH g).2;refine go [99999] ?_;refine oP (ai call222 rfl (F9 f zO)) ?_;refine oP (ai call222 rfl (F9 g zO)) ?_;refine oP (ek call307 rfl rfl (aiF _ _ _ _ zO zO zO zO)) ?_;refine oP (ai call224 rfl (KP _ _ zO zO ajv)) ?_;refine J.ret (?_);exact Rd.cA results269 isAgg35 sizeOf35 rfl rfl rfl (Sub.agg (.cons (Sub.str (by rw[gp,gp];rfl)) (.cons (Sub.str (by rw[gp,gp];rfl)) .nil)))
theorem acU(f g:aM)(hf:f.num.length≤900∧f.den.length≤900)(hg:g.num.length≤900∧g.den.length≤900):Fc Tryz.prog 223 [.agg (cj f),.agg (cj g)] (.agg (cj (xD f g))):=by
 refine Fc.je func223 rfl ntmps223 rfl rfl rfl ?_;refine go [99999] ?_;refine oP (ai call270 rfl aiH) ?_;refine oP (ajM (r:=.fn (.func 307) [] [.bc [.fn (.func 305) [] []]]) underlying279 isAgg278 sizeOf278 rfl rfl zD zD rfl) ?_;refine oP (ai call269 rfl (Yd _ _ zA zA)) ?_;refine ord ?_;refine J.ret (?_);exact Rd.cA results223 isAgg35 sizeOf35 rfl rfl rfl (Sub.agg (.r (.r .nil)))
theorem Pq(f g:aM)(hf:f.num.length≤900∧f.den.length≤900)(hg:g.num.length≤900∧g.den.length≤900):Fc Tryz.prog 176 [.agg (cj f),.agg (cj g)] (.i (qZ f g)):=by
 refine Fc.mk' [4] func176 rfl ntmps176 rfl rfl rfl (fun t w=>results_tmp results176 t _ w) ?_;have hl:=alK (k:=900) zD hf hg;have hp:=zN (xD f g);refine go [] ?_;refine oP (ai call223 rfl (acU _ _ zA zA)) ?_;refine oP (ai call222 rfl (F9 _ zO)) ?_;refine oP (ai call186 rfl (AG _ [] (by rw[hp];omega) zS)) ?_;exact ah rfl (Sub.int (by rw[hp];rfl))
theorem Lp(f:aM)(pos part:Bool)(hs:lU f):Fc Tryz.prog 175 [.agg (cj f),.bc [.b pos],.bc [.b part]] (.i (e6 pos part f)):=by
 refine Fc.mk' [4] func175 rfl ntmps175 rfl rfl rfl (fun t w=>results_tmp results175 t _ w) ?_;have hf:f.num.length≤900∧f.den.length≤900:=⟨Nat.le_trans hs.1 zD,Nat.le_trans hs.2 zD⟩;refine go [] ?_;refine oP (ai call176 rfl (Pq f c6 hf zD)) ?_;refine oP (ai call177 rfl (PU _ zA)) ?_;refine br (fun h1=>?_) (fun h1=>?_)
 ·exact ah rfl (Sub.int (by unfold e6 ta;exact iS h1))
 ·refine oP (ai call178 rfl (Pr _)) ?_;refine gP (fun hg=>ai call178 rfl (Pr _)) ?_;refine br (fun h2=>?_) (fun h2=>?_)
  ·exact ah rfl (Sub.int (by unfold e6 ta;exact cW h1 (iS h2)))
  ·refine gP (fun hg=>ai call179 rfl (acN [49] zD)) ?_;refine gP (fun hg=>ai call176 rfl (Pq f (cw (val [49]) (val [49])) hf (Tg (k:=2) zD zD zD|>.imp (Nat.le_trans · zD) (Nat.le_trans · zD)))) ?_;refine ord ?_;refine br (fun h3=>?_) (fun h3=>?_)
   ·exact ah rfl (Sub.int (by unfold e6 ta;exact cW h1 (cW h2 (iS h3))))
   ·exact ah rfl (Sub.int (by unfold e6 ta;exact cW h1 (cW h2 (cW h3 rfl))))
theorem Az(a b:Bool):Fc Tryz.prog 120 [.b a,.b b] (.fn (.func 175) [] [.bc [.b a],.bc [.b b]]):=by
 refine Fc.mk' [4] func120 rfl ntmps120 rfl rfl rfl (fun t w=>results_tmp results120 t _ w) ?_;refine go [1] ?_;refine J.bE (Le.fY 2 0 rfl rfl rfl rfl) ?_;refine J.bE (Le.fY 3 1 rfl rfl rfl rfl) ?_;refine go [] ?_;exact ah rfl (by exact Sub.refl _)
end Go.T
namespace Go.T
open Go
variable[bX]
variable{P:Program} {env:Env} {dst:Option Tmp} {ty:TypeId} {pos:String} {ar:Array Edge} {g:Option (Nat×Bool)}
inductive ug(P:Program):List Field→Nat→Nat→Prop
 |nil (k:Nat):ug P [] k k
 |str {f:Field} {fs:List Field} {k n:Nat} (hn:(f.name== "_")=false) (hu:P.underlying f.type=some .string) (ha:∀w,(isAgg f.type).run P w=.ok false w) (ho:f.offset=k) (r:ug P fs (k+1) n):ug P (f::fs) k n
 |sub {f:Field} {fs gs:List Field} {k n m:Nat} (hn:(f.name== "_")=false) (hu:P.underlying f.type=some (.struct gs.toArray)) (hp:P.stoodInHeld f.type=false) (ha:∀w,(isAgg f.type).run P w=.ok true w) (hs:∀w,(sizeOf f.type).run P w=.ok m w) (hm:gs.length=m) (hg:uf P gs 0) (ho:f.offset=k) (r:ug P fs (k+m) n):ug P (f::fs) k n
theorem abJ{d:Nat}{xs ys:List aa}{fs:List Field}{k n:Nat}(h:ug P fs k n)(hx:n=xs.length)(hy:n=ys.length)(w:World):
  k≤n∧(Op.eqFields (d+2) (xs.map fun s=>Value.string ⟨s.toArray⟩).toArray (ys.map fun s=>Value.string ⟨s.toArray⟩).toArray fs).run P w=.ok (decide (xs.drop k=ys.drop k)) w:=by
 induction h with
 |nil k=>
  rw[List.drop_of_length_le zO,List.drop_of_length_le zO];simp[Op.eqFields]
 |@str f fs k n hn hu ha ho r ih=>
  obtain⟨hk,ih⟩:=ih hx hy;have h1:k<xs.length:=by omega
  have h2:k<ys.length:=by omega
  have wx:decide (xs.drop k=ys.drop k)=(decide (xs[k]=ys[k])&&decide (xs.drop (k+1)=ys.drop (k+1))):=by
   rw[List.drop_eq_getElem_cons h1,List.drop_eq_getElem_cons h2];simp only[List.cons.injEq,Bool.decide_and]
  refine⟨by omega,?_⟩;rw[wx];have rv:f.name≠ "_":=by simpa using hn
  simp only[Op.eqFields,rv,ne_eq,not_false_eq_true,if_true,Sem.run_bind,part,ha,Result.andThen_ok,Bool.false_eq_true,if_false,ho];simp only[List.getElem?_toArray,List.getElem?_map,List.getElem?_eq_getElem h1,List.getElem?_eq_getElem h2,Option.map_some,Sem.run_pure,Result.andThen_ok,run_equalIn_string _ _ _ _ _ hu,vx];by_cases e:xs[k]=ys[k]
  ·simp only[e,BEq.rfl,Bool.not_true,Bool.false_eq_true,if_false,decide_true,Bool.true_and];exact ih
  ·have:(xs[k]==ys[k])=false:=by simpa using e
   simp only[this,Bool.not_false,if_true,Sem.run_pure,e,decide_false,Bool.false_and]
 |@sub f fs gs k n m hn hu hp ha hs hm hg ho r ih=>
  obtain⟨hk,ih⟩:=ih hx hy;refine⟨by omega,?_⟩;have rv:f.name≠ "_":=by simpa using hn
  have j1:P.fieldsOf f.type=gs.toArray:=by simp[Program.fieldsOf,hu]
  have he:∀zs:List aa,(zs.map fun s=>Value.string ⟨s.toArray⟩).toArray.extract k (k+m)=(((zs.drop k).take m).map fun s=>Value.string ⟨s.toArray⟩).toArray:=by
   intro zs;simp[List.map_take,List.map_drop]
  have h3:=fun us vs=>run_equalIn_struct (P:=P) w (d+1) f.type us vs (by rw[j1];exact hu) hp;have h6:=O7 (d:=d) hg (xs:=(xs.drop k).take m) (ys:=(ys.drop k).take m) zQ zQ w;rw[List.drop_zero,List.drop_zero]at h6;have wx:decide (xs.drop k=ys.drop k)=(decide ((xs.drop k).take m=(ys.drop k).take m)&&decide (xs.drop (k+m)=ys.drop (k+m))):=by
   rw[←Bool.decide_and,decide_eq_decide];constructor
   ·intro e;rw[e];exact⟨rfl,by rw[←List.drop_drop,←List.drop_drop,e]⟩
   ·rintro⟨e1,e2⟩;rw[←List.take_append_drop m (xs.drop k),←List.take_append_drop m (ys.drop k),e1,List.drop_drop,List.drop_drop,e2]
  rw[wx];rw[j1]at h3;simp only[Op.eqFields,rv,ne_eq,not_false_eq_true,if_true,Sem.run_bind,part,ha,hs,Result.andThen_ok,ho,Sem.run_pure,he];rw[h3,h6];simp only[Result.andThen_ok];by_cases e:(xs.drop k).take m=(ys.drop k).take m
  ·simp only[e,Bool.not_true,Bool.false_eq_true,if_false,decide_true,Bool.true_and];exact ih
  ·simp only[e,decide_false,Bool.not_false,if_true,Sem.run_pure,Bool.false_and]
theorem ajD{op:BinOp}{t t':TypeId}{x y:Operand}{xs ys:List aa}{fs:List Field}{n:Nat}(yQ:op=.eql∨op=.neq)(hu:P.underlying t=some (.struct fs.toArray))(hp:P.stoodInHeld t=false)(hg:P.eqGuardType P.depth t=false)(hf:ug P fs 0 n)(uL:n=xs.length)(uM:n=ys.length)
  (hx:env.op x=some (.agg (xs.map D.str)))(hy:env.op y=some (.agg (ys.map D.str)))(U:ae):aq P ⟨dst,.binOp op t x y t',ty,pos,ar,g⟩ env U (.raw (.bool (if op=.eql then decide (xs=ys)else !decide (xs=ys)))) U:=
 .val fun _ _ a w _ hv=>by
  have h1:=hv x (by simp[Op.operands]) _ hx;have h2:=hv y (by simp[Op.operands]) _ hy;simp only[V]at h1 h2;obtain⟨us,e1,h1⟩:=h1;obtain⟨vs,e2,h2⟩:=h2;have h1:=As h1;have h2:=As h2;have j1:P.fieldsOf t=fs.toArray:=by simp[Program.fieldsOf,hu]
  have h3:=run_equalIn_struct (P:=P) w 9999 t us vs (by rw[j1];exact hu) hp;have h4:us=(xs.map fun s=>Value.string ⟨s.toArray⟩).toArray:=by rw[←h1]
  have h5:vs=(ys.map fun s=>Value.string ⟨s.toArray⟩).toArray:=by rw[←h2]
  have h6:=(abJ (d:=9997) hf (xs:=xs) (ys:=ys) uL uM w).2;rw[j1]at h3;simp only[h4,h5]at h3 e1 e2;simp only[List.drop_zero]at h6;refine⟨.bool (if op=.eql then decide (xs=ys)else !decide (xs=ys)),?_,by simp only[V]⟩;rcases yQ with rfl|rfl
  ·simp[execOp,e1,e2,run_eqGuard_agg _ _ _ _ _ _ _ hg,run_eql_struct,h3,h6]
  ·simp[execOp,e1,e2,run_eqGuard_agg _ _ _ _ _ _ _ hg,run_neq_struct,h3,h6]
theorem ajW{t t':TypeId}{x y:Operand}{xs ys:List aa}{fs:List Field}{n:Nat}{ds es:List D}(hu:P.underlying t=some (.struct fs.toArray))(hp:P.stoodInHeld t=false)(hg:P.eqGuardType P.depth t=false)(hf:ug P fs 0 n)(uL:n=xs.length)(uM:n=ys.length)
  (hx:env.op x=some (.agg ds))(hy:env.op y=some (.agg es))(hd:ds=xs.map D.str)(he:es=ys.map D.str)(U:ae):aq P ⟨dst,.binOp .neq t x y t',ty,pos,ar,g⟩ env U (.raw (.bool (!decide (xs=ys)))) U:=by
 subst hd;subst he;exact ajD (.inr rfl) hu hp hg hf uL uM hx hy U
def uT:Value→Bool
 |.nilIface=>true
 |_=>false
theorem ajI{t t':TypeId}{x:Operand}{v:Value}{ms:Array (String×TypeId)}(hu:P.underlying t=some (.interface ms))(hx:env.op x=some (.raw v))(sZ:v=.nilIface∨∃te pe,v=.iface te pe)(U:ae):
  aq P ⟨dst,.binOp .eql t x (.const .nilIface) t',ty,pos,ar,g⟩ env U (.raw (.bool (uT v))) U:=
 .val fun _ _ a w _ hv=>by
  have h1:=hv x (by simp[Op.operands]) _ hx;simp only[V]at h1;refine⟨.bool (uT v),?_,by simp only[V]⟩;have e2:a.eval (.const .nilIface)=.nilIface:=rfl;rcases sZ with rfl|⟨te,pe,rfl⟩
  ·have h3:(eqGuard .eql t x (.const .nilIface) .nilIface .nilIface).run P w=.ok () w:=by cases x<;>rfl
   have h:∀d:Nat,(Op.equalIn (d+1) t .nilIface .nilIface).run P w=.ok true w:=fun d=>by simp[Op.equalIn,run_underlying hu]
   have h4:(binOp .eql t .nilIface .nilIface).run P w=.ok (.bool true) w:=by
    show((Op.equalIn (9999+1) t .nilIface .nilIface).bind fun b=>Sem.pure (Value.bool b)).run P w=_;rw[Sem.run_bind',h];rfl
   simp only[execOp,h1,e2,uT];rw[Sem.run_bind,Sem.run_bind,h3];simp only[Result.andThen_ok];rw[h4];rfl
  ·have h3:(eqGuard .eql t x (.const .nilIface) (.iface te pe) .nilIface).run P w=.ok () w:=rfl;have h:∀d:Nat,(Op.equalIn (d+1) t (.iface te pe) .nilIface).run P w=.ok false w:=fun d=>by simp[Op.equalIn,run_underlying hu]
   have h4:(binOp .eql t (.iface te pe) .nilIface).run P w=.ok (.bool false) w:=by
    show((Op.equalIn (9999+1) t (.iface te pe) .nilIface).bind fun b=>Sem.pure (Value.bool b)).run P w=_;rw[Sem.run_bind',h];rfl
   simp only[execOp,h1,e2,uT];rw[Sem.run_bind,Sem.run_bind,h3];simp only[Result.andThen_ok];rw[h4];rfl
end Go.T
namespace Go.T
open Go Go.Proofs Go.Shelf Go.RowKit
def Hq(s:aa)(p:Int×Value):Prop:=(Lib.atoiAll s=.ok p.1∧p.2=.nilIface)∨((∀v,Lib.atoiAll s≠.ok v)∧∃te pe,p.2=.iface te pe)
theorem Yl{s:aa}{p:Int×Value}(h:Hq s p):p.2=.nilIface∨∃te pe,p.2=.iface te pe:=h.imp (·.2) (·.2)
theorem Pa{w:World}{O:Nat→Prop}(h:Gl w O){g:Nat}(hg:g∈Ir):∃te pe,w.cell? ⟨g,0,none⟩=some (.iface te pe):=by
 obtain⟨⟨te,pe,T,fr,h1⟩,_⟩:=h.2 g hg;exact⟨te,pe,by simp[World.cell?,h1]⟩
theorem afU(w:World)(t:ByteArray):fO w (Lib.bytesWorld w mQ t):=fO.below (Lib.bytesWorld_below w mQ t)
theorem Ym(s:aa)(hs:s.length≤1000):xP Tryz.prog 234 [.str s] (Hq s) (fun p=>.bj [.i p.1,.raw p.2]):=⟨fun w O ρ vals hO hg hv=>by
 simp only[Vs,V]at hv;obtain⟨_,_,rfl,⟨rfl,_⟩,rfl⟩:=hv;have aY:(⟨s.toArray⟩:ByteArray).size=s.length:=by simp[ByteArray.size]
 have hl:(⟨s.toArray⟩:ByteArray).data.toList=s:=by simp
 cases e:Lib.atoiAll s with
 |ok v=>
  refine Calls.mono (Tryz.strconv_Atoi_ok ⟨s.toArray⟩ zO v (by rw[hl];exact e) w) ?_;rintro e' w' ⟨rfl,hw⟩;refine⟨(v,.nilIface),_,.inl ⟨e,rfl⟩,rfl,by simp[V,Vs,D.i],?_⟩;rcases hw with rfl|⟨t,rfl⟩
  ·exact⟨Nat.le_refl _,fun _ _=>rfl,rfl,rfl,gV.eq rfl rfl⟩
  ·exact afU w t
 |range=>
  obtain⟨te,pe,hc⟩:=Pa hg (g:=4) zD;refine Calls.mono (Tryz.strconv_Atoi_range ⟨s.toArray⟩ zO (by rw[hl];exact e) _ w hc (.inr ⟨_,_,rfl⟩)) ?_;rintro e' w' ⟨N,rfl,_,_,hb⟩;exact⟨(Lib.atoiSat s,.iface 307 (.pointer (some ⟨N,0,none⟩))),_,.inr ⟨fun v h=>(by rw[e]at h;cases h),_,_,rfl⟩,rfl,by simp[V,Vs,D.i,hl],fO.below hb⟩
 |_=>
  obtain⟨te,pe,hc⟩:=Pa hg (g:=3) zD;refine Calls.mono (Any.strconv_Atoi_syntax Tryz.Ky ⟨s.toArray⟩ zO (by rw[hl];exact e) _ w hc (.inr ⟨_,_,rfl⟩)) ?_;rintro e' w' ⟨N,rfl,_,_,hb⟩;exact⟨(0,.iface 307 (.pointer (some ⟨N,0,none⟩))),_,.inr ⟨fun v h=>(by rw[e]at h;cases h),_,_,rfl⟩,rfl,by simp[V,Vs,D.i];rfl,fO.below hb⟩⟩
theorem afO(n:Int)(h0:0≤n)(h1:n≤9999):Fc Tryz.prog 235 [.i n] (.str (Lib.itoa n)):=.pU fun w O ρ vals hg hv=>by
 simp only[Vs,V]at hv;obtain⟨_,_,rfl,rfl,rfl⟩:=hv;refine(Tryz.strconv_Itoa n zO zO w (Ww hg)).mono ?_;rintro e w' ⟨rfl,k,os,rfl⟩;refine⟨_,rfl,?_,Sa w k os⟩;simp only[V];have:(Lib.itoa n).length≤20:=by
  unfold Lib.itoa;rw[if_neg zO,Lib.decDigits_length];by_cases h:n.toNat=0
  ·rw[h,Lib.nDigits_small zO];omega
  ·have:=Lib.numDigits_eq n.toNat zO zO;split at this<;>omega
 exact⟨trivial,by unfold aG;omega⟩
theorem Z1(s:aa):(fX s 47).2.1.length≤s.length:=by
 unfold fX;split
 ·simp
 ·simp
def qw(s:aa):Bool:=isName (fX s 47).1&&(match Lib.atoiAll (fX s 47).2.1 with|.ok n=>decide (1≤n)&&decide (n≤9999)&&decide (Lib.itoa n=(fX s 47).2.1)|_=>false)
theorem afK{s:aa}{p:Int×Value}(h:Hq (fX s 47).2.1 p):(isName (fX s 47).1&&uT p.2&&decide (1≤p.1)&&decide (p.1≤9999)&&decide (Lib.itoa p.1=(fX s 47).2.1))=qw s:=by
 obtain⟨n,v⟩:=p;unfold qw;rcases h with⟨h1,h2⟩|⟨h1,te,pe,h2⟩
 ·simp only at h1 h2;rw[h1,h2];simp[uT,Bool.and_assoc]
 ·simp only at h1 h2;rw[h2];cases e:Lib.atoiAll (fX s 47).2.1 with
  |ok v=>exact absurd e (h1 v)
  |range=>simp[uT]
  |_=>simp[uT]
end Go.T
namespace Go.T
open Go Go.Proofs Go.Proofs.Tryz
set_option maxRecDepth 20000
structure abR(a b:List du)where
 pre:List du
 rest:List du
 au:List du
 aC:List du
 hx:a=pre++rest
 hy:b=au++aC
 hp:pre=au
 mZ:au.length=pre.length
 j3:aC.length=rest.length
theorem abQ(a b:List du):Fc Tryz.prog 114 [mH a,mH b] (.b (jE a b)):=by
 refine Fc.mk' [4] func114 rfl ntmps114 rfl rfl rfl (fun t w=>results_tmp results114 t _ w) ?_;refine J.eu 0 rfl (fun hb=>?_);simp only[List.length_map,aG]at hb;refine J.eu 1 rfl (fun fZ=>?_);simp only[List.length_map,aG]at fZ;refine go [] ?_;refine br (fun h1=>?_) (fun h1=>?_)
 ·exact ah rfl (Sub.bool (by exact D6 (by have h9:=h1;simp at h9;omega)))
 ·refine J.loop (ι:=abR a b) (fun sx=>[(0,mH a),(1,mH b),(12,.i a.length),(13,.i sx.pre.length)]) (fun sx=>[]) (fun sx=>sx.rest.length) ⟨[],a,[],b,rfl,rfl,rfl,rfl,by simp at h1;omega⟩ ?_ ?_
  ·exact Le.mk rfl (.s rfl rfl (.s rfl rfl (.cons rfl (Sub.int zS) rfl (.s rfl rfl .nil)))) .nil
  ·rintro⟨pre,rest,au,aC,hx,hy,hp,mZ,j3⟩;show J _ _ _ _ [(0,mH a),(1,mH b),(12,.i a.length),(13,.i pre.length)] [];have hl:=congrArg List.length hx;simp only[List.length_append]at hl;rcases rest with _|⟨x,rest⟩
   ·obtain rfl:aC=[]:=List.length_eq_zero_iff.1 (by simpa using j3);refine go [] ?_;refine a_ (by simp at hl⊢;omega) ?_;refine go [] ?_;exact ah rfl (Sub.bool (by exact D5 hx hy hp))
   ·simp only[List.length_cons]at hl;obtain⟨y,aC,rfl⟩:=DK (n:=rest.length) (by simpa using j3);refine go [] ?_;refine bk zQ ?_;refine ix zO (aS jX hx rfl) ?_;refine ix zO (aS jX hy zO) ?_;refine oP (qK (xs:=[x.gb,x.dm]) (ys:=[y.gb,y.dm]) underlying85 (by kernel_rfl) (by kernel_rfl) (.cons zK underlying9 isAgg9 rfl (.cons zK underlying33 isAgg33 rfl (.nil _))) rfl rfl rfl rfl rfl rfl) ?_;refine ord ?_;refine br (fun h2=>?_) (fun h2=>?_)
    ·exact ah rfl (Sub.bool (by exact D7 hx hy mZ (ajl h2)))
    ·refine sd (aw zO) ?_;exact nx ⟨pre++[x],rest,au++[y],aC,by simp[hx],by simp[hy],by rw[hp,ajk h2],by simp[mZ],by simpa using j3⟩ zS (Le.mk rfl (.s rfl rfl (.s rfl rfl (.s rfl rfl (.cons rfl (Sub.int zS) rfl .nil)))) .nil)
structure abP(a b:List cT)where
 pre:List cT
 rest:List cT
 au:List cT
 aC:List cT
 hx:a=pre++rest
 hy:b=au++aC
 hp:pre=au
 mZ:au.length=pre.length
 j3:aC.length=rest.length
theorem abO(a b:List cT):Fc Tryz.prog 115 [kn a,kn b] (.b (jE a b)):=by
 refine Fc.mk' [4] func115 rfl ntmps115 rfl rfl rfl (fun t w=>results_tmp results115 t _ w) ?_;refine J.eu 0 rfl (fun hb=>?_);simp only[List.length_map,aG]at hb;refine J.eu 1 rfl (fun fZ=>?_);simp only[List.length_map,aG]at fZ;refine go [] ?_;refine br (fun h1=>?_) (fun h1=>?_)
 ·exact ah rfl (Sub.bool (by exact D6 (by have h9:=h1;simp at h9;omega)))
 ·refine J.loop (ι:=abP a b) (fun sx=>[(0,kn a),(1,kn b),(12,.i a.length),(13,.i sx.pre.length)]) (fun sx=>[]) (fun sx=>sx.rest.length) ⟨[],a,[],b,rfl,rfl,rfl,rfl,by simp at h1;omega⟩ ?_ ?_
  ·exact Le.mk rfl (.s rfl rfl (.s rfl rfl (.cons rfl (Sub.int zS) rfl (.s rfl rfl .nil)))) .nil
  ·rintro⟨pre,rest,au,aC,hx,hy,hp,mZ,j3⟩;show J _ _ _ _ [(0,kn a),(1,kn b),(12,.i a.length),(13,.i pre.length)] [];have hl:=congrArg List.length hx;simp only[List.length_append]at hl;rcases rest with _|⟨x,rest⟩
   ·obtain rfl:aC=[]:=List.length_eq_zero_iff.1 (by simpa using j3);refine go [] ?_;refine a_ (by simp at hl⊢;omega) ?_;refine go [] ?_;exact ah rfl (Sub.bool (by exact D5 hx hy hp))
   ·simp only[List.length_cons]at hl;obtain⟨y,aC,rfl⟩:=DK (n:=rest.length) (by simpa using j3);refine go [] ?_;refine bk zQ ?_;refine ix zO (aS ma hx rfl) ?_;refine ix zO (aS ma hy zO) ?_;refine oP (ajW (xs:=(xh x)) (ys:=(xh y)) underlying87 (by kernel_rfl) (by kernel_rfl) (.str zK underlying9 isAgg9 rfl (.sub zK underlying35 (by kernel_rfl) isAgg35 sizeOf35 rfl (.cons zK underlying33 isAgg33 rfl (.cons zK underlying33 isAgg33 rfl (.nil _))) rfl (.sub zK underlying35 (by kernel_rfl) isAgg35 sizeOf35 rfl (.cons zK underlying33 isAgg33 rfl (.cons zK underlying33 isAgg33 rfl (.nil _))) rfl (.sub zK underlying35 (by kernel_rfl) isAgg35 sizeOf35 rfl (.cons zK underlying33 isAgg33 rfl (.cons zK underlying33 isAgg33 rfl (.nil _))) rfl (.nil _))))) rfl rfl rfl rfl rfl rfl) ?_;refine ord ?_;refine br (fun h2=>?_) (fun h2=>?_)
    ·exact ah rfl (Sub.bool (by exact D7 hx hy mZ (aiP h2)))
    ·refine sd (aw zO) ?_;exact nx ⟨pre++[x],rest,au++[y],aC,by simp[hx],by simp[hy],by rw[hp,aiO h2],by simp[mZ],by simpa using j3⟩ zS (Le.mk rfl (.s rfl rfl (.s rfl rfl (.s rfl rfl (.cons rfl (Sub.int zS) rfl .nil)))) .nil)
theorem akU(a b:Fact):Fc Tryz.prog 76 [.agg (aX a),.agg (aX b)] (.b (Ah a b)):=by
 refine Fc.mk' [4] func76 rfl ntmps76 rfl rfl rfl (fun t w=>results_tmp results76 t _ w) ?_;refine go [] ?_;refine gP (fun hg=>xo (xs:=[a.d_.num,a.d_.den]) (ys:=[b.d_.num,b.d_.den]) underlying35 (by kernel_rfl) (by kernel_rfl) (.cons zK underlying33 isAgg33 rfl (.cons zK underlying33 isAgg33 rfl (.nil _))) rfl rfl rfl rfl rfl rfl) ?_;refine gP (fun hg=>xo (xs:=[a.ratio.num,a.ratio.den]) (ys:=[b.ratio.num,b.ratio.den]) underlying35 (by kernel_rfl) (by kernel_rfl) (.cons zK underlying33 isAgg33 rfl (.cons zK underlying33 isAgg33 rfl (.nil _))) rfl rfl rfl rfl rfl rfl) ?_;refine gP (fun hg=>xo (xs:=[a.share.num,a.share.den]) (ys:=[b.share.num,b.share.den]) underlying35 (by kernel_rfl) (by kernel_rfl) (.cons zK underlying33 isAgg33 rfl (.cons zK underlying33 isAgg33 rfl (.nil _))) rfl rfl rfl rfl rfl rfl) ?_;refine gP (fun hg=>ai call114 rfl (abQ _ _)) ?_;refine gP (fun hg=>ai call115 rfl (abO _ _)) ?_;exact ah rfl (Sub.refl _)
theorem W_(f:Fact)(n:Int)(h0:0≤n)(hn:n<13):Fc Tryz.prog 128 [.agg (aX f),.i n] (.agg (cj (jk f n))):=by
 refine Fc.je func128 rfl ntmps128 rfl rfl rfl ?_;refine go [1,99999] ?_;refine J.bE (Le.fY 2 0 rfl rfl rfl rfl) ?_;refine go [99999] ?_;refine oP (ai call184 rfl (GQ _)) ?_;refine oP (ai call184 rfl (GQ _)) ?_;refine oP (ai call184 rfl (GQ _)) ?_;refine oP (Vq (r:=cj (jk f n)) underlying208 isAgg35 sizeOf35 rfl rfl h0 hn zQ (anK h0 hn)) ?_;refine ord ?_;refine J.ret (?_);exact Rd.cA results128 isAgg35 sizeOf35 rfl rfl rfl (Sub.agg (.r (.r .nil)))
theorem OZ(f:Fact)(n:Int)(h0:0≤n)(hn:n<13):Fc Tryz.prog 89 [.agg (aX f),.i n] (.b (dT f n)):=by
 refine Fc.mk' [4] func89 rfl ntmps89 rfl rfl rfl (fun t w=>results_tmp results89 t _ w) ?_;refine go [] ?_;refine br (fun h1=>?_) (fun h1=>?_)
 ·exact ah rfl (Sub.bool (by(try simp only[List.length_map]);unfold dT;exact iT h1))
 ·refine br (fun h2=>?_) (fun h2=>?_)
  ·exact ah rfl (Sub.bool (by(try simp only[List.length_map]);unfold dT;exact iF h1 (iT h2)))
  ·refine br (fun h3=>?_) (fun h3=>?_)
   ·exact ah rfl (Sub.bool (by(try simp only[List.length_map]);unfold dT;exact iF h1 (iF h2 (iT h3))))
   ·refine br (fun h4=>?_) (fun h4=>?_)
    ·exact ah rfl (Sub.bool (by(try simp only[List.length_map]);unfold dT;exact iF h1 (iF h2 (iF h3 (iT h4)))))
    ·refine br (fun h5=>?_) (fun h5=>?_)
     ·exact ah rfl (Sub.bool (by(try simp only[List.length_map]);unfold dT;exact iF h1 (iF h2 (iF h3 (iF h4 (iT h5))))))
     ·refine br (fun h6=>?_) (fun h6=>?_)
      ·exact ah rfl (Sub.bool (by(try simp only[List.length_map]);unfold dT;exact iF h1 (iF h2 (iF h3 (iF h4 (iF h5 (iT h6)))))))
      ·refine br (fun h7=>?_) (fun h7=>?_)
       ·exact ah rfl (Sub.bool (by(try simp only[List.length_map]);unfold dT;exact iF h1 (iF h2 (iF h3 (iF h4 (iF h5 (iF h6 (iT h7))))))))
       ·refine oP (ai call128 rfl (W_ _ _ zA zA)) ?_;refine oP (xo (xs:=[(jk f n).num,(jk f n).den]) (ys:=[c6.num,c6.den]) underlying35 (by kernel_rfl) (by kernel_rfl) (.cons zK underlying33 isAgg33 rfl (.cons zK underlying33 isAgg33 rfl (.nil _))) rfl rfl rfl rfl rfl rfl) ?_;exact ah rfl (Sub.bool (by(try simp only[List.length_map]);unfold dT;exact iF h1 (iF h2 (iF h3 (iF h4 (iF h5 (iF h6 (iF h7 (Ej _ _)))))))))
theorem afL(s:aa)(hs:s.length≤200):Fc Tryz.prog 181 [.str s] (.b (qw s)):=by
 refine Fc.mk' [2] func181 rfl ntmps181 rfl rfl rfl (fun t w=>results_tmp results181 t _ w) ?_;have hc:=Z1 s;refine go [2,3] ?_;refine oP (ai call233 rfl (alB _ _)) ?_;refine J.vl ?_;refine Tx.q rfl trivial (aT rfl _) ?_;refine Tx.n rfl trivial (Vl call234 rfl (Ym _ zO) _) (fun nb cP=>?_);dsimp only;refine Tx.q rfl trivial (aT rfl _) ?_;refine Tx.q rfl trivial (eC rfl rfl _) ?_;refine Tx.q rfl trivial (eC rfl rfl _) ?_;refine Tx.q rfl trivial (zX rfl _) ?_;refine Tx.q rfl trivial (zX rfl _) ?_;refine Tx.nil ?_;refine go [2,3] ?_;refine J.af [.p,.p,.p,.p,.p,.p,.p,.p,.p,.p,.p,.p,.p,.p,.p,.p,.p,.p,.p,.p,.p] ?_;refine .mv rfl rfl<|.P rfl (ai call86 rfl (zr _))<|.mv rfl rfl<|.gT rfl (.inl rfl) rfl rfl rfl (fun hg=>pk (fun _=>aT rfl _))<|.gT rfl (.inl rfl) rfl rfl rfl (fun hg=>pk (fun _=>ajI underlying239 (bh rfl hg) (Yl cP) _))<|.P rfl (gO rfl rfl)<|.mv rfl rfl<|.gT rfl (.inl rfl) rfl rfl rfl (fun hg=>pk (fun _=>aT rfl _))<|.gT rfl (.inl rfl) rfl rfl rfl (fun hg=>pk (fun _=>oQ (bh rfl hg) rfl _))<|.P rfl (gO rfl rfl)<|.mv rfl rfl<|.gT rfl (.inl rfl) rfl rfl rfl (fun hg=>pk (fun _=>aT rfl _))<|.gT rfl (.inl rfl) rfl rfl rfl (fun hg=>pk (fun _=>CE (bh rfl hg) rfl _))<|.P rfl (gO rfl rfl)<|.mv rfl rfl<|.gT rfl (.inl rfl) rfl rfl rfl (fun hg=>pk (fun _=>aT rfl _))<|.gT rfl (.inl rfl) rfl rfl rfl (fun hg=>pk (fun _=>ai call235 (ck (bh rfl hg) (rfl)) (afO _ (by simp[pa]at hg;omega) (by simp[pa]at hg;omega)) _))<|.gT rfl (.inl rfl) rfl rfl rfl (fun hg=>pk (fun _=>aT rfl _))<|.gT rfl (.inl rfl) rfl rfl rfl (fun hg=>pk (fun _=>L0 (bh rfl hg) (bh rfl hg) _))<|.P rfl (gO rfl rfl)<|.ag rfl rfl<|.nil ?_;refine go [2,3] ?_;exact ah rfl (Sub.bool (by exact afK cP))
end Go.T
namespace Go.T
open Go
def k_(q:aa)(pre:List du)(sum:aa):List du→Int
 |[]=>if decide (0<fw (val sum-val q))=true then 15 else 0
 |p::r=>if(!qw p.gb)=true then 23 else if pre.any (fun y=>decide (y.gb=p.gb))=true then 5 else if decide (e6 true false ⟨p.dm,[]⟩≠0)=true then e6 true false ⟨p.dm,[]⟩else k_ q (pre++[p]) (qb sum p.dm) r
def r6(f:Fact):Int:=if decide (64<(f.fL.length:Int))=true then 4 else k_ f.dm [] [] f.fL
theorem U1{f:Fact}(h:decide (64<(f.fL.length:Int))=false):r6 f=k_ f.dm [] [] f.fL:=by rw[r6,if_neg (by rw[h];simp)]
theorem U2{e:Int}{q sum:aa}{pre rest:List du}{x:du}(hp:e=k_ q pre sum (x::rest))(h:(!qw x.gb)=true):23=e:=by rw[hp,k_,if_pos h]
theorem U3{e:Int}{q sum:aa}{pre rest:List du}{x:du}(hp:e=k_ q pre sum (x::rest))(h:(!qw x.gb)=false)(h2:pre.any (fun y=>decide (y.gb=x.gb))=true):5=e:=by rw[hp,k_,if_neg (by rw[h];simp),if_pos h2]
theorem U4{e:Int}{q sum:aa}{pre rest:List du}{x:du}(hp:e=k_ q pre sum (x::rest))(h:(!qw x.gb)=false)(h2:pre.any (fun y=>decide (y.gb=x.gb))=false)(h3:decide (e6 true false ⟨x.dm,[]⟩≠0)=true):e6 true false ⟨x.dm,[]⟩=e:=by
 rw[hp,k_,if_neg (by rw[h];simp),if_neg (by rw[h2];simp),if_pos h3]
theorem U5{e:Int}{q sum:aa}{pre rest:List du}{x:du}(hp:e=k_ q pre sum (x::rest))(h:(!qw x.gb)=false)(h2:pre.any (fun y=>decide (y.gb=x.gb))=false)(h3:decide (e6 true false ⟨x.dm,[]⟩≠0)=false):e=k_ q (pre++[x]) (qb sum x.dm) rest:=by
 rw[hp,k_,if_neg (by rw[h];simp),if_neg (by rw[h2];simp),if_neg (by rw[h3];simp)]
def nf:List aM→Int→Int
 |[],d=>d
 |x::r,d=>if decide (e6 false false x≠0)=true then e6 false false x else nf r d
def Cl(o:cT):Bool:=(decide (o.other≠[])!=(!decide ([o.ratio.num,o.ratio.den]=[[],[]])))||(decide (o.other=[])&&!decide ([o.value.num,o.value.den]=[[],[]]))
def zI(i:aa)(o:cT)(d:Int):Int:=if(decide (o.other≠[])&&!isName o.other)=true then 23 else if decide (o.other=i)=true then 18 else nf [o.ratio,o.d_,o.value] (if Cl o=true then 2 else d)
def oL(i:aa):List cT→Int
 |[]=>0
 |o::r=>zI i o (oL i r)
def pW(f:Fact):Int:=if decide ((f.opts.length:Int)=0)=true then 11 else if decide (8<(f.opts.length:Int))=true then 4 else oL f.dM f.opts
theorem aiW{f:Fact}(h:decide ((f.opts.length:Int)=0)=false)(h2:decide (8<(f.opts.length:Int))=false):pW f=oL f.dM f.opts:=by rw[pW,if_neg (by rw[h];simp),if_neg (by rw[h2];simp)]
theorem aiL{e:Int}{i:aa}{o:cT}{r:List cT}(hp:e=oL i (o::r))(h:(decide (o.other≠[])&&!isName o.other)=true):23=e:=by rw[hp,oL,zI,if_pos h]
theorem aiM{e:Int}{i:aa}{o:cT}{r:List cT}(hp:e=oL i (o::r))(h:(decide (o.other≠[])&&!isName o.other)=false)(h2:decide (o.other=i)=true):18=e:=by rw[hp,oL,zI,if_neg (by rw[h];simp),if_pos h2]
theorem aiN{e:Int}{i:aa}{o:cT}{r:List cT}(hp:e=oL i (o::r))(h:(decide (o.other≠[])&&!isName o.other)=false)(h2:decide (o.other=i)=false):e=nf [o.ratio,o.d_,o.value] (if Cl o=true then 2 else oL i r):=by
 rw[hp,oL,zI,if_neg (by rw[h];simp),if_neg (by rw[h2];simp)]
theorem Ft{e d:Int}{x:aM}{r:List aM}(h:e=nf (x::r) d)(k:decide (e6 false false x≠0)=true):e6 false false x=e:=by rw[h,nf,if_pos k]
theorem rM{e d:Int}{x:aM}{r:List aM}(h:e=nf (x::r) d)(k:decide (e6 false false x≠0)=false):e=nf r d:=by rw[h,nf,if_neg (by rw[k];simp)]
theorem Fs{e d:Int}(h:e=nf [] d):e=d:=h
theorem UG{e d:Int}{b:Bool}(h:e=if b=true then 2 else d)(hb:b=false):e=d:=by rw[h,if_neg (by rw[hb];simp)]
theorem UH{e d:Int}{b:Bool}(h:e=if b=true then 2 else d)(hb:b=true):2=e:=by rw[h,if_pos hb]
theorem U8{f:Fact}(h:decide (64<(f.fL.length:Int))=true):4=r6 f:=by rw[r6,if_pos h]
theorem U6{e:Int}{q sum:aa}{pre:List du}(hp:e=k_ q pre sum [])(h:decide (0<fw (val sum-val q))=true):15=e:=by rw[hp,k_,if_pos h]
theorem U7{e:Int}{q sum:aa}{pre:List du}(hp:e=k_ q pre sum [])(h:decide (0<fw (val sum-val q))=false):0=e:=by rw[hp,k_,if_neg (by rw[h];simp)]
theorem aiX{f:Fact}(h:decide ((f.opts.length:Int)=0)=true):11=pW f:=by rw[pW,if_pos h]
theorem aiY{f:Fact}(h:decide ((f.opts.length:Int)=0)=false)(h2:decide (8<(f.opts.length:Int))=true):4=pW f:=by rw[pW,if_neg (by rw[h];simp),if_pos h2]
structure nJ(f:Fact):Prop where
 fL:∀p∈f.fL,p.gb.length≤200∧p.dm.length≤60
 dm:f.dm.length≤60
 mN:f.mN.length≤60
 mU:f.mU.length≤60
 d_:lU f.d_
 ratio:lU f.ratio
 share:lU f.share
 opts:∀o∈f.opts,lU o.ratio∧lU o.d_∧lU o.value
open Go.Proofs Go.Proofs.Tryz
set_option maxRecDepth 20000
structure Zg(f:Fact)where
 pre:List du
 rest:List du
 sum:aa
 hx:f.fL=pre++rest
 hp:r6 f=k_ f.dm pre sum rest
 yU:sum.length≤62*pre.length
 A8:f.fL.length≤64
theorem NR(f:Fact)(hf:nJ f):Fc Tryz.prog 126 [.agg (aX f)] (.i (r6 f)):=by
 refine Fc.mk' [2] func126 rfl ntmps126 rfl rfl rfl (fun t w=>results_tmp results126 t _ w) ?_;refine J.vR 0 18 rfl rfl (fun hb=>?_);simp only[List.length_map,aG]at hb;refine go [9] ?_;refine br (fun h1=>?_) (fun h1=>?_)
 ·exact ah rfl (Sub.int (by exact U8 (by simpa using h1)))
 ·refine J.loop (ι:=Zg f) (fun sx=>[(1,.box 0 0),(3,.str sx.sum),(12,mH f.fL),(13,.i f.fL.length),(14,.i sx.pre.length)]) (fun sx=>[(0,.cells (aX f))]) (fun sx=>sx.rest.length) ⟨[],_,[],rfl,U1 (by simpa using h1),by simp,by have h9:=h1;simp at h9;omega⟩ ?_ ?_
  ·exact Le.mk rfl (.s rfl rfl (.s rfl rfl (.s rfl rfl (.cons rfl (Sub.int zS) rfl (.s rfl rfl .nil))))) (.cons rfl rfl .nil)
  ·rintro⟨pre,rest,sum,hx,hp,yU,A8⟩;show J _ _ _ _ [(1,.box 0 0),(3,.str sum),(12,mH f.fL),(13,.i f.fL.length),(14,.i pre.length)] [(0,.cells (aX f))];have hl:=congrArg List.length hx;simp only[List.length_append]at hl;rcases rest with _|⟨x,rest⟩
   ·skip;refine go [9] ?_;refine a_ (by simp at hl⊢;omega) ?_;refine go [9] ?_;refine oP (ai call186 rfl (AG sum f.dm zO (by have:=hf.dm;omega))) ?_;refine br (fun h2=>?_) (fun h2=>?_)
    ·exact ah rfl (Sub.int (by exact U6 hp h2))
    ·exact ah rfl (Sub.int (by exact U7 hp h2))
   ·simp only[List.length_cons]at hl;have yY:=hf.fL x (by rw[hx];simp);refine go [9] ?_;refine bk zQ ?_;refine ix zO (aS jX hx rfl) ?_;refine oP (ai call181 rfl (afL x.gb yY.1)) ?_;refine br (fun h3=>?_) (fun h3=>?_)
    ·exact ah rfl (Sub.int (by exact U2 hp h3))
    ·refine J.bE (Le.fY 5 1 rfl rfl rfl rfl) ?_;refine go [] ?_;refine oP (oT underlying36 sizeOf85 rfl (l:=0) (h:=pre.length) (r:=pre.map jX) (.inl ⟨rfl,rfl⟩) (.inr ⟨_,_,rfl,rfl⟩) zO (by simp[hx]) (by rw[hx];simp)) ?_;refine oP (ai call182 rfl (ZM pre _ [.bc (jX x)] rfl (fun y=>decide (y.gb=x.gb)) call183 (fun y _=>akT y x))) ?_;refine br (fun h4=>?_) (fun h4=>?_)
     ·exact ah rfl (Sub.int (by exact U3 hp h3 h4))
     ·refine oP (ai call120 rfl (Az _ _)) ?_;refine oP (ai call184 rfl (GQ _)) ?_;refine oP (ek call175 rfl rfl (Lp ⟨x.dm,[]⟩ true false ⟨yY.2,by simp⟩)) ?_;refine ord ?_;refine br (fun h5=>?_) (fun h5=>?_)
      ·exact ah rfl (Sub.int (by exact U4 hp h3 h4 h5))
      ·refine oP (ai call185 rfl (X4 sum x.dm zO zO)) ?_;refine go [9] ?_;refine sd (aw zO) ?_;exact nx ⟨pre++[x],rest,qb sum x.dm,by simp[hx],U5 hp h3 h4 h5,by have:=X1 sum x.dm;have:=yY.2;simp;omega,A8⟩ zS (Le.mk rfl (.s rfl rfl (.s rfl rfl (.s rfl rfl (.s rfl rfl (.cons rfl (Sub.int zS) rfl .nil))))) (.cons rfl rfl .nil))
structure Ze(f:Fact)where
 pre:List cT
 rest:List cT
 hx:f.opts=pre++rest
 hp:pW f=oL f.dM rest
structure Zf(f:Fact)(pre rest:List cT)(x:cT)where
 au:List aM
 aC:List aM
 aU:[x.ratio,x.d_,x.value]=au++aC
 hq:pW f=nf aC (if Cl x=true then 2 else oL f.dM rest)
theorem NQ(f:Fact)(hf:nJ f):Fc Tryz.prog 127 [.agg (aX f)] (.i (pW f)):=by
 refine Fc.mk' [2] func127 rfl ntmps127 rfl rfl rfl (fun t w=>results_tmp results127 t _ w) ?_;refine J.vR 0 19 rfl rfl (fun hb=>?_);simp only[List.length_map,aG]at hb;refine go [] ?_;refine br (fun h1=>?_) (fun h1=>?_)
 ·exact ah rfl (Sub.int (by exact aiX (by simpa using h1)))
 ·refine br (fun h2=>?_) (fun h2=>?_)
  ·exact ah rfl (Sub.int (by exact aiY (by simpa using h1) (by simpa using h2)))
  ·refine J.loop (ι:=Ze f) (fun sx=>[(1,.box 0 0),(17,kn f.opts),(18,.i f.opts.length),(19,.i sx.pre.length)]) (fun sx=>[(0,.cells (aX f))]) (fun sx=>sx.rest.length) ⟨[],_,rfl,aiW (by simpa using h1) (by simpa using h2)⟩ ?_ ?_
   ·exact Le.mk rfl (.s rfl rfl (.s rfl rfl (.cons rfl (Sub.int zS) rfl (.s rfl rfl .nil)))) (.cons rfl rfl .nil)
   ·rintro⟨pre,rest,hx,hp⟩;show J _ _ _ _ [(1,.box 0 0),(17,kn f.opts),(18,.i f.opts.length),(19,.i pre.length)] [(0,.cells (aX f))];have hl:=congrArg List.length hx;simp only[List.length_append]at hl;rcases rest with _|⟨x,rest⟩
    ·skip;refine go [] ?_;refine a_ (by simp at hl⊢;omega) ?_;refine go [] ?_;exact ah rfl (Sub.int (by rw[hp];rfl))
    ·simp only[List.length_cons]at hl;have iG:=hf.opts x (by rw[hx];simp);refine go [] ?_;refine bk zQ ?_;refine ix zO (aS ma hx rfl) ?_;refine gP (fun hg=>ai call86 rfl (zr _)) ?_;refine br (fun h3=>?_) (fun h3=>?_)
     ·exact ah rfl (Sub.int (by exact aiL hp h3))
     ·refine br (fun h4=>?_) (fun h4=>?_)
      ·exact ah rfl (Sub.int (by exact aiM hp h3 h4))
      ·refine oP (bK (n:=3) (rows:=[cj x.ratio,cj x.d_,cj x.value]) underlying116 sizeOf35 rfl rfl rfl zeroValue35 rfl rfl rfl rfl rfl rfl rfl) ?_;refine J.loop (ι:=Zf f pre rest x) (fun sx=>[(1,.box 0 0),(4,.box 1 0),(17,kn f.opts),(18,.i f.opts.length),(19,.i pre.length),(43,.snap 2 true ([x.ratio,x.d_,x.value].map cj)),(44,.i 3),(45,.i sx.au.length)]) (fun sx=>[(0,.cells (aX f)),(1,.cells (ma x))]) (fun sx=>sx.aC.length) ⟨[],_,rfl,aiN hp h3 h4⟩ ?_ ?_
       ·exact Le.mk rfl (.s rfl rfl (.s rfl rfl (.s rfl rfl (.s rfl rfl (.s rfl rfl (.s rfl rfl (.s rfl rfl (.s rfl rfl .nil)))))))) (.cons rfl rfl (.cons rfl rfl .nil))
       ·rintro⟨au,aC,aU,hq⟩;show J _ _ _ _ [(1,.box 0 0),(4,.box 1 0),(17,kn f.opts),(18,.i f.opts.length),(19,.i pre.length),(43,.snap 2 true ([x.ratio,x.d_,x.value].map cj)),(44,.i 3),(45,.i au.length)] [(0,.cells (aX f)),(1,.cells (ma x))];have bN:=congrArg List.length aU;simp only[List.length_append,List.length_cons,List.length_nil]at bN;rcases aC with _|⟨x2,aC⟩
        ·skip;refine go [] ?_;refine a_ (by simp at bN⊢;omega) ?_;refine go [] ?_;refine oP (qK (xs:=[x.ratio.num,x.ratio.den]) (ys:=[[],[]]) underlying35 (by kernel_rfl) (by kernel_rfl) (.cons zK underlying33 isAgg33 rfl (.cons zK underlying33 isAgg33 rfl (.nil _))) rfl rfl rfl rfl rfl rfl) ?_;refine gP (fun hg=>qK (xs:=[x.value.num,x.value.den]) (ys:=[[],[]]) underlying35 (by kernel_rfl) (by kernel_rfl) (.cons zK underlying33 isAgg33 rfl (.cons zK underlying33 isAgg33 rfl (.nil _))) rfl rfl rfl rfl rfl rfl) ?_;refine ord ?_;refine br (fun h5=>?_) (fun h5=>?_)
         ·exact ah rfl (Sub.int (by exact UH (Fs hq) h5))
         ·refine go [] ?_;refine sd (aw zO) ?_;exact nx ⟨pre++[x],rest,by simp[hx],UG (Fs hq) h5⟩ zS (Le.mk rfl (.s rfl rfl (.s rfl rfl (.s rfl rfl (.cons rfl (Sub.int zS) rfl .nil)))) (.cons rfl rfl .nil))
        ·simp only[List.length_cons]at bN;have j7:=K3 aU;refine go [] ?_;refine bk zQ ?_;refine ix zO (aS cj aU rfl) ?_;refine oP (ai call120 rfl (Az _ _)) ?_;refine oP (ek call175 rfl rfl (Lp x2 false false (by rcases j7 with rfl|rfl|rfl;exact iG.1;exact iG.2.1;exact iG.2.2))) ?_;refine ord ?_;refine br (fun h6=>?_) (fun h6=>?_)
         ·exact ah rfl (Sub.int (by exact Ft hq h6))
         ·refine sd (aw zO) ?_;exact nx ⟨au++[x2],aC,by simp[aU],rM hq h6⟩ zS (Le.mk rfl (.s rfl rfl (.s rfl rfl (.s rfl rfl (.s rfl rfl (.s rfl rfl (.s rfl rfl (.s rfl rfl (.cons rfl (Sub.int zS) rfl .nil)))))))) (.cons rfl rfl (.cons rfl rfl .nil)))
end Go.T
namespace Go.T
open Go
variable[bX]
@[reducible] def dj(s:aa):Prop:=s.length≤aG
theorem PG(k:aa):∀(es:List MapEntry)(ks:List aa)(i:Nat),es.map (·.key)=ks.map C_→Instr.findNow .string (C_ k) es i=some ((jY k ks i).map fun j=>(j,(es[j-i]?.map (·.val)).getD undef))
 |[],[],i,_=>by simp[Instr.findNow,jY]
 |[],_::_,i,h=>by simp at h
 |_::_,[],i,h=>by simp at h
 |e::es,x::ks,i,h=>by
  simp only[List.map_cons,List.cons.injEq]at h;have ih:=PG k es ks (i+1) h.2;simp only[Instr.findNow,h.1,Instr.sameNow,Ws];by_cases hx:k=x
  ·subst hx;simp[jY]
  ·simp only[jY,hx,if_false,decide_false];rw[ih];cases hf:jY k ks (i+1)with
   |none=>rfl
   |some j=>
    have:=IJ hf;simp only[Option.map_some];rw[show j-i=(j-(i+1))+1 by omega,List.getElem?_cons_succ]
theorem afZ{P:Program}{kt:TypeId}(hu:P.underlying kt=some .string):kr P kt D.str C_ dj:=by
 refine⟨?_,?_,?_,?_,?_⟩
 ·intro w O ρ k v h;simp only[V]at h;exact h
 ·intro w O ρ k h;simp only[V];exact⟨trivial,h⟩
 ·intro b k w _;show(Instr.checkKey b (9999+1) kt _).run P w=_;rw[Instr.checkKey];simp[ca hu]
 ·intro k es ks w JH _ _;have:=PG k es ks 0 JH;simp only[Nat.sub_zero]at this;simp[Instr.findKey,ca hu,this]
 ·intro k w;simp[Instr.keyThatStays,Instr.sameBits,Ws]
end Go.T
namespace Go.T
open Go
variable[bX]
theorem PF(ik:IntKind)(k:Int):∀(es:List MapEntry)(ks:List Int)(i:Nat),es.map (·.key)=ks.map (Value.int ik)→Instr.findNow (.int ik) (.int ik k) es i=some ((jY k ks i).map fun j=>(j,(es[j-i]?.map (·.val)).getD undef))
 |[],[],i,_=>by simp[Instr.findNow,jY]
 |[],_::_,i,h=>by simp at h
 |_::_,[],i,h=>by simp at h
 |e::es,x::ks,i,h=>by
  simp only[List.map_cons,List.cons.injEq]at h;have ih:=PF ik k es ks (i+1) h.2;simp only[Instr.findNow,h.1,Instr.sameNow];by_cases hx:k=x
  ·subst hx;simp[jY]
  ·have hb:(k==x)=false:=by simpa using hx
   simp only[jY,hx,if_false,hb];rw[ih];cases hf:jY k ks (i+1)with
   |none=>rfl
   |some j=>
    have:=IJ hf;simp only[Option.map_some];rw[show j-i=(j-(i+1))+1 by omega,List.getElem?_cons_succ];simp
theorem afY{P:Program}{kt:TypeId}{ik:IntKind}(hu:P.underlying kt=some (.int ik)):kr P kt (fun n:Int=>D.raw (.int ik n)) (Value.int ik) (fun _=>True):=by
 refine⟨?_,?_,?_,?_,?_⟩
 ·intro w O ρ k v h;simp only[V]at h;exact⟨h,trivial⟩
 ·intro w O ρ k _;simp only[V]
 ·intro b k w _;show(Instr.checkKey b (9999+1) kt _).run P w=_;rw[Instr.checkKey];simp[ca hu]
 ·intro k es ks w JH _ _;have:=PF ik k es ks 0 JH;simp only[Nat.sub_zero]at this;simp[Instr.findKey,ca hu,this]
 ·intro k w;simp[Instr.keyThatStays,Instr.sameBits]
end Go.T
namespace Go.T
open Go
variable[bX]
section
variable{P:Program} {env:Env} {dst:Option Tmp} {ty:TypeId} {pos:String} {ar:Array Edge} {g:Option (Nat×Bool)}
theorem aj3{t kt et:TypeId}{x:Operand}{U:ae}(eI:Nat)(hu:P.underlying t=some (.map kt et))(hx:env.op x=some (.raw (.map none)))(hid:U.get eI=none):
  aq P ⟨dst,.range t x,ty,pos,ar,g⟩ env U (.box eI 0) ((eI,.mn)::U):=
 .step fun O ρ a w aj hv=>by
  have cd:=hv x (by simp[Op.operands]) _ hx;simp only[V]at cd;have hr:=run_range_nilMap (P:=P) w t kt et hu;refine⟨.pointer (some ⟨w.heap.size,0,none⟩),_,T.cm ρ eI ⟨w.heap.size,0,0⟩,.inl ?_,Tr.born aj hid (.mapIter none 0 #[] 0) rfl (fun i x h _=>h) (fun i h=>h) ?_,?_⟩
  ·simp only[execOp,cd];rw[Sem.run_bind,hr];rfl
  ·intro hk;show({w with heap:=w.heap.push (.mapIter none 0 #[] 0)}:World).heap[w.heap.size]?=_;simp
  ·simp only[V];exact⟨⟨w.heap.size,0,0⟩,by simp[T.cm],rfl⟩
theorem ajZ{x:Operand}{eI:Nat}{U:ae}(hx:env.op x=some (.box eI 0))(hi:U.get eI=some .mn):
  aq P ⟨dst,.next x false,ty,pos,ar,g⟩ env U (.bj [.b false]) U:=
 .val fun O ρ a w aj hv=>by
  have cd:=hv x (by simp[Op.operands]) _ hx;simp only[V]at cd;obtain⟨r,qo,e1⟩:=cd;obtain⟨r',nO,_,hit⟩:=aj.own eI _ hi rfl;rw[qo]at nO;cases nO;have Bi:w.heap[r.b]?=some (.mapIter none 0 #[] 0):=hit;have hr:(Instr.next (.pointer (some ⟨r.b,0,none⟩)) false ty).run P w=.ok (.tuple #[.bool false]) w:=by
   simp only[Instr.next,getObj,Sem.run_bind,Sem.run,Bi,Result.andThen];rfl
  refine⟨.tuple #[.bool false],?_,by simp[V,Vs,D.b]⟩;simp only[execOp,e1];rw[Sem.run_bind,hr];rfl
end
section
variable{κ β:Type} [DecidableEq κ] {P:Program} {kt:TypeId} {kD:κ→D} {kV:κ→Value} {gN:κ→Prop} {vD:β→D}
variable{env:Env} {dst:Option Tmp} {ty:TypeId} {pos:String} {ar:Array Edge} {g:Option (Nat×Bool)}
theorem ajS(hK:kr P kt kD kV gN){t et:TypeId}{x y:Operand}{m:List (κ×β)}{k:κ}{d:β}{kd md:D}{U:ae}{zv:Value}(hu:P.underlying t=some (.map kt et))(hz:∀w,(zeroValue et).run P w=.ok zv w)(s6:∀(w:World) O ρ,V w O ρ (vD d) zv)
  (hx:env.op x=some md)(JY:md=uS kD vD m)(hy:env.op y=some kd)(qn:kd=kD k):
  aq P ⟨dst,.lookup t x y true,ty,pos,ar,g⟩ env U (.bj [vD (dU d m k),.b (jZ m k)]) U:=
 .val fun O ρ a w aj hv=>by
  subst qn;subst JY;obtain⟨b,e1,qm⟩:=Dp.1 (hv x (by simp[Op.operands]) _ hx);have dJ:=hK.val (hv y (by simp[Op.operands]) _ hy);obtain⟨es,h4,h5,h6⟩:=D8 hK qm;have ql:=fun b=>hK.check b k w dJ.2;have il:=hK.find k es.toList (m.map (·.1)) w h5.keys h6 dJ.2;rcases AY d k m 0 with⟨g1,g2,g3,_⟩|⟨j,gj,g1,g2,g3,_⟩
  ·refine⟨.tuple #[zv,.bool (jZ m k)],?_,by simp only[V,Vs];exact⟨_,rfl,_,_,rfl,by rw[g3];exact s6 _ _ _,_,_,rfl,rfl,rfl⟩⟩;rw[g1]at il;rw[g2];simp[execOp,e1,dJ.1,Instr.lookup,ca hu,MapKept.run_getObj_map h4,ql,il,hz]
  ·obtain⟨e,k1,k2,k3,k4⟩:=h5.at_ j k _ g2;refine⟨.tuple #[e.val,.bool (jZ m k)],?_,by simp only[V,Vs];exact⟨_,rfl,_,_,rfl,V.mono (Kept.refl _ _) (Af ρ) _ _ k4,_,_,rfl,rfl,rfl⟩⟩;rw[g1]at il;simp only[Option.map_some,Nat.zero_add,Array.getElem?_toList,k1,Option.getD_some]at il;rw[g3];simp[execOp,e1,dJ.1,Instr.lookup,ca hu,MapKept.run_getObj_map h4,ql,il]
end
def aZ(listed:Array Bool)(i:Nat):Bool:=listed.getD i false
theorem fp{listed:Array Bool}{i j:Nat}(hi:i<listed.size):aZ (listed.setIfInBounds i true) j=if i=j then true else aZ listed j:=by
 unfold aZ;rw[Array.getD_eq_getD_getElem?,Array.getD_eq_getD_getElem?,Array.getElem?_setIfInBounds];split
 ·simp[hi]
 ·rfl
theorem Gp{ops:Array Oper}{listed:Array Bool}{i:Nat}(hs:listed.size=ops.size)(h:i∈Region.ready .any ops listed):i<ops.size∧aZ listed i=false∧∀o,ops[i]?=some o→∀e∈o.after,Region.binds .any e=true→aZ listed e.on=true:=by
 unfold Region.ready at h;rw[List.mem_filter,List.mem_range,Bool.and_eq_true]at h;obtain⟨h1,h2,h3⟩:=h;refine⟨h1,?_,fun o ho e he hb=>?_⟩
 ·unfold aZ;have hi:i<listed.size:=by omega
  rw[Array.getD_eq_getD_getElem?,Array.getElem?_eq_getElem hi]at h2⊢;simpa using h2
 ·rw[ho]at h3;simp only[Option.map_some,Option.getD_some]at h3;have:=Array.all_eq_true'.1 h3 e he;rw[hb]at this;simpa[aZ]using this
def Ay(ops:Array Oper):Bool:=(List.range ops.size).all fun i=>((ops[i]?).map fun o=>o.after.all fun e=>!Region.binds .any e||Nat.blt e.on i).getD true
theorem VB{ops:Array Oper}{listed:Array Bool}(hs:listed.size=ops.size)(hb:Ay ops=true)(h:Region.ready .any ops listed=[]):∀i,i<ops.size→aZ listed i=true:=by
 intro i;induction i using Nat.strongRecOn with
 |_ i ih=>
  intro hi;cases e:aZ listed i with
  |true=>rfl
  |false=>
   exfalso;have:i∈Region.ready .any ops listed:=by
    unfold Region.ready;rw[List.mem_filter,List.mem_range,Bool.and_eq_true];have mh:i<listed.size:=by omega
    refine⟨hi,?_,?_⟩
    ·unfold aZ at e;rw[Array.getD_eq_getD_getElem?,Array.getElem?_eq_getElem mh]at e⊢;simpa using e
    ·rw[Array.getElem?_eq_getElem hi];simp only[Option.map_some,Option.getD_some];rw[Array.all_eq_true'];intro x hx;have h1:=List.all_eq_true.1 hb i (List.mem_range.2 hi);rw[Array.getElem?_eq_getElem hi]at h1;simp only[Option.map_some,Option.getD_some]at h1;have h2:=Array.all_eq_true'.1 h1 x hx;cases fZ:Region.binds .any x with
     |false=>simp
     |true=>
      rw[fZ]at h2;have h3:x.on<i:=by simpa[Nat.blt_eq]using h2
      have h4:=ih x.on h3 zO;unfold aZ at h4;simp[h4]
   rw[h]at this;cases this
def vA(listed:Array Bool)(n:Nat):Nat:=(List.range n).countP fun i=>!aZ listed i
theorem WQ{listed:Array Bool}{n i:Nat}(hi:i<n)(h:aZ listed i=false):0<vA listed n:=List.countP_pos_iff.2 ⟨i,List.mem_range.2 hi,by simp[h]⟩
theorem WR{listed:Array Bool}{n i:Nat}(hi:i<n)(hs:n=listed.size)(h:aZ listed i=false):vA (listed.setIfInBounds i true) n+1≤vA listed n:=by
 unfold vA;have key:∀l:List Nat,l.Nodup→i∈l→(l.countP fun j=>!aZ (listed.setIfInBounds i true) j)+1≤l.countP fun j=>!aZ listed j:=by
  intro l;induction l with
  |nil=>intro _ hm;cases hm
  |cons a l ih=>
   intro hn hm;rw[List.nodup_cons]at hn;simp only[List.countP_cons];by_cases e:i=a
   ·subst e;have pI:(l.countP fun j=>!aZ (listed.setIfInBounds i true) j)=l.countP fun j=>!aZ listed j:=by
     apply List.countP_congr;intro x hx;rw[fp zO,if_neg (by rintro rfl;exact hn.1 hx)]
    rw[pI,fp zO,if_pos rfl,h];simp
   ·have Bm:i∈l:=(List.mem_cons.1 hm).resolve_left e;have:=ih hn.2 Bm;rw[fp zO,if_neg e];omega
 exact key _ List.nodup_range (List.mem_range.2 hi)
section
variable{P:Program} {F:Fr} {ops:Array Oper} {K:Env→ae→Prop}
theorem jn.bE{dH:Nat}{listed:Array Bool}{env aQ:Env}{U am:ae}(h:Le F env U aQ am)(k:jn P F ops K dH listed aQ am):jn P F ops K dH listed env U:=⟨fun C Q hQ a w hs=>k.out C Q hQ a w (h.out C a w hs)⟩
def G5(P:Program)(F:Fr)(ops:Array Oper)(I:Array Bool→Env→ae→Prop)(i:Nat)(o:Oper):Prop:=
 ∀listed env U,listed.size=ops.size→I listed env U→aZ listed i=false→(∀e∈o.after,Region.binds .any e=true→aZ listed e.on=true)→
  ∃d am fD cX,dR F.N o.dst=true∧On ops env o∧aq P o env U d am∧Le F (env.put o.dst d) am fD cX∧I (listed.setIfInBounds i true) fD cX
def vM(P:Program)(F:Fr)(ops:Array Oper)(I:Array Bool→Env→ae→Prop):Nat→List Oper→Prop
 |_,[]=>True
 |i,o::l=>G5 P F ops I i o∧vM P F ops I (i+1) l
theorem vM.get{I:Array Bool→Env→ae→Prop}:∀{l:List Oper}{k i:Nat}{o:Oper},vM P F ops I k l→l[i]?=some o→G5 P F ops I (k+i) o
 |[],k,i,o,_,h=>by simp at h
 |x::l,k,0,o,hs,h=>by simp at h;subst h;exact hs.1
 |x::l,k,i+1,o,hs,h=>by
  have:=vM.get hs.2 (i:=i) (o:=o) (by simpa using h);rwa[Nat.add_right_comm,Nat.add_assoc]at this
theorem jn.inv{I:Array Bool→Env→ae→Prop}(hb:Ay ops=true)(sV:∀listed env U,listed.size=ops.size→(∀i,i<ops.size→aZ listed i=true)→I listed env U→K env U)
  (aP:vM P F ops I 0 ops.toList):∀(dH:Nat)(listed:Array Bool)(env:Env)(U:ae),listed.size=ops.size→vA listed ops.size≤dH→I listed env U→jn P F ops K dH listed env U:=by
 intro dH;induction dH with
 |zero=>
  intro listed env U hs hf hI;have dW:∀i,i<ops.size→aZ listed i=true:=fun i hi=>by
   cases e:aZ listed i with
   |true=>rfl
   |false=>have:=WQ hi e;omega
  refine jn.nil ?_ (sV listed env U hs dW hI);rw[List.eq_nil_iff_forall_not_mem];intro i hi;have:=Gp hs hi;rw[dW i this.1]at this;cases this.2.1
 |succ dH ih=>
  intro listed env U hs hf hI;refine⟨fun C Q hQ a w By=>⟨fun hr=>hQ a w env U (sV listed env U hs (VB hs hb hr) hI) By,fun i hi=>?_⟩⟩;have hl:Region.ready .any ops listed≠[]:=fun e=>by rw[e]at hi;cases hi
  have hT:jn P F ops K (dH+1) listed env U:=jn.step rfl hl (fun i hi=>by
   obtain⟨h1,h2,h3⟩:=Gp hs hi;have ho:ops[i]?=some ops[i]:=Array.getElem?_eq_getElem h1;have h4:G5 P F ops I (0+i) ops[i]:=vM.get aP (by simpa using ho);rw[Nat.zero_add]at h4;obtain⟨d,am,fD,cX,q1,q2,q3,q4,q5⟩:=h4 listed env U hs hI h2 (h3 _ ho);exact Di.mk' ho q1 q2 q3 (.bE q4 (ih _ _ _ (by simpa using hs) (by have:=WR h1 hs.symm h2;omega) q5)))
  exact(hT.out C Q hQ a w By).2 i hi
theorem J.VH{ι:Type}{A:ι→Prop}{fD:ι→Env}{cX:ι→ae}{env:Env}{U:ae}{Q:Exit→Env→ae→Prop}{cs:List Code}{id:Nat}{l:List Oper}{c:Code}(I:Array Bool→Env→ae→Prop)(hm:P.follows .mixedOrders=true)(hb:Ay l.toArray=true)
  (h0:I (Array.replicate l.length false) env U)(aP:vM P F l.toArray I 0 l)(sV:∀listed e o,listed.size=l.length→(∀i,i<l.length→aZ listed i=true)→I listed e o→∃i,A i∧Le F e o (fD i) (cX i))
  (k:∀i,A i→J P F (c::cs) Q (fD i) (cX i)):J P F (.region id l.toArray true::c::cs) Q env U:=⟨⟨fun C a w hs=>by
 refine wpIn_region_any hm ?_;have hT:jn P F l.toArray (fun e o=>∃i,A i∧Le F e o (fD i) (cX i)) l.length (Array.replicate l.length false) env U:=
  jn.inv (I:=I) hb (by simpa using sV) (by simpa using aP) l.length _ env U zS (by
   have:vA (Array.replicate l.length false) l.toArray.size≤(List.range l.toArray.size).length:=List.countP_le_length;simpa using this) h0
 have:=hT.out C (fun e a' w'=>∃aQ am,jS (od P F (c::cs) Q) Q e aQ am∧St F C aQ am a' w') (fun a w aQ am hk hs=>by
  obtain⟨i,hA,eY⟩:=hk;exact⟨fD i,cX i,(k i hA).out,eY.out C a w hs⟩) a _ hs.drew
 simpa using this⟩⟩
end
end Go.T
namespace Go.T
open Go
abbrev mJ:=Option (Bool×Bool)
abbrev iv:=List (Int×mJ)
@[reducible] def cO(w:aa)(c:Int)(h:Nat→Bool)(num:D)(code:Bool):List D:=
 [.str w,.i c,.b (h 0),.b (h 1),.b (h 2),.b (h 3),.b (h 4),.b (h 5),.b (h 6),.b (h 7),.b (h 8),.b (h 9),.b (h 10),.b (h 11),.b (h 12),num,.b code]
def CS(h:Nat→Bool)(i:Nat):Nat→Bool:=fun j=>decide (j=i)||h j
theorem NM{i:Int}(h0:0≤i)(h1:i<13):i=0∨i=1∨i=2∨i=3∨i=4∨i=5∨i=6∨i=7∨i=8∨i=9∨i=10∨i=11∨i=12:=by omega
theorem Io{w:aa}{c:Int}{h:Nat→Bool}{num:D}{code:Bool}{i:Int}(h0:0≤i)(h1:i<13):(cO w c h num code).set (2+i.toNat) (.raw (.bool true))=cO w c (CS h i.toNat) num code:=by
 rcases NM h0 h1 with rfl|rfl|rfl|rfl|rfl|rfl|rfl|rfl|rfl|rfl|rfl|rfl|rfl<;>rfl
theorem abz{w:aa}{c:Int}{h:Nat→Bool}{num:D}{code:Bool}{i:Int}(h0:0≤i)(h1:i<13):(cO w c h num code)[2+i.toNat]?=some (.b (h i.toNat)):=by
 rcases NM h0 h1 with rfl|rfl|rfl|rfl|rfl|rfl|rfl|rfl|rfl|rfl|rfl|rfl|rfl<;>rfl
theorem D3{w:aa}{c:Int}{h h':Nat→Bool}{num:D}{code:Bool}(e:∀j,j<13→h j=h' j):cO w c h num code=cO w c h' num code:=by
 simp only[cO,e 0 zO,e 1 zO,e 2 zO,e 3 zO,e 4 zO,e 5 zO,e 6 zO,e 7 zO,e 8 zO,e 9 zO,e 10 zO,e 11 zO,e 12 zO]
def b9(m:iv)(more:List Int)(j:Nat):Bool:=m.any (fun p=>decide (p.1=(j:Int)))||more.any (fun n=>decide (n=(j:Int)))
def wv(m:iv)(seen:List Nat)(j:Nat):Bool:=seen.any fun i=>decide ((m[i]?.map (·.1))=some (j:Int))
theorem ad9{m:iv}{seen:List Nat}{i:Nat}{k:Int}{v:mJ}(h:m[i]?=some (k,v))(hk:0≤k)(j:Nat):wv m (seen++[i]) j=CS (wv m seen) k.toNat j:=by
 unfold wv CS;rw[List.any_append];simp only[List.any_cons,List.any_nil,Bool.or_false,h,Option.map_some];rw[Bool.or_comm]
 congr 1
 rw[decide_eq_decide];simp only[Option.some.injEq];omega
theorem ad8{m:iv}{seen:List Nat}(dW:∀j,j<m.length→j∈seen)(j:Nat):wv m seen j=m.any (fun p=>decide (p.1=(j:Int))):=by
 unfold wv;rw[Bool.eq_iff_iff,List.any_eq_true,List.any_eq_true];constructor
 ·rintro⟨i,hi,h⟩;have h:=of_decide_eq_true h;obtain⟨p,h1,h2⟩:=Option.map_eq_some_iff.1 h;exact⟨p,List.mem_of_getElem? h1,by simpa using h2⟩
 ·rintro⟨p,hp,h⟩;obtain⟨i,hi⟩:=List.getElem?_of_mem hp;exact⟨i,dW i (List.getElem?_eq_some_iff.1 hi).1,by rw[hi];simpa using h⟩
def uC(h:Nat→Bool)(pre:List Int)(j:Nat):Bool:=h j||pre.any fun n=>decide (n=(j:Int))
theorem QA{h:Nat→Bool}{pre:List Int}{n:Int}(hn:0≤n)(j:Nat):uC h (pre++[n]) j=CS (uC h pre) n.toNat j:=by
 unfold uC CS;rw[List.any_append];simp only[List.any_cons,List.any_nil,Bool.or_false];have:decide (n=(j:Int))=decide (j=n.toNat):=by rw[decide_eq_decide];omega
 rw[this,←Bool.or_assoc,Bool.or_comm]
theorem GD{seen:List Nat}{j:Nat}(hn:seen.Nodup)(hj:j∉seen):(seen++[j]).Nodup:=by
 rw[List.nodup_append];exact⟨hn,by simp,by simp;intro a ha e;subst e;exact hj ha⟩
theorem ag'{m:iv}{seen:List Nat}{j:Nat}{kv:Int×mJ}(h:m[j]?=some kv)(bw:∀j∈seen,j<m.length):∀i∈seen++[j],i<m.length:=by
 intro i hi;rcases List.mem_append.1 hi with hi|hi
 ·exact bw i hi
 ·simp at hi;subst hi;exact(List.getElem?_eq_some_iff.1 h).1
end Go.T
