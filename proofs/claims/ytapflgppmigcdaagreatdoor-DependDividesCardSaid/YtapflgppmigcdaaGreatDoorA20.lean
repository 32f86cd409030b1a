/-
  Contracts of the functions that the statement reaches, and the logic in which they are proved (no condition): parts W123, W124, W125, SpecV2, SpecV3, W126, W127, W128, W129, Card1.
-/
import Derived.Test.YtapflgppmigcdaaGreatDoorA19
import Derived.ChangeArms
import Derived.SizedLaws
set_option linter.all false
namespace Go.T
open Go Go.Proofs Go.Proofs.Tryz
set_option maxRecDepth 20000
def zP(k:Int):Int:=if(dC k).isSome=true then 0 else 7
theorem agM(v:kr):kZ (cH v.w v.c v.h (yG v.num) v.code)=true:=by obtain⟨w,c,h,nu,code⟩:=v;cases nu<;>rfl
theorem LU{m:List (Int×kr)}{k:Int}(hA:yd m)(h:(!iU m k)=true):(0:Int)=fC k∧(7:Int)=zP k:=by
 obtain⟨_,h2⟩:=Iz hA.1 hA.2 k;rw[h2]at h;unfold fC zP;cases e:dC k with
 |none=>exact⟨rfl,rfl⟩
 |some r=>rw[e]at h;cases h
theorem LS{m:List (Int×kr)}{k:Int}(hA:yd m)(h:(!iU m k)=false):(cN uT m k).c=fC k∧(0:Int)=zP k:=by
 obtain⟨h1,h2⟩:=Iz hA.1 hA.2 k;rw[h2]at h;obtain⟨r,hr⟩:=Kb h;obtain⟨r',kN,_,hc,_⟩:=IB h1 hr;unfold fC zP;rw[kN]at hr;cases hr;rw[kN];exact⟨hc,rfl⟩
theorem LW(k:Int):Fc Tryz.prog 159 [.i k] (.bf [.i (fC k),.i (zP k)]):=by
 refine Fc.mk' [2,3] func159 rfl ntmps159 rfl rfl rfl (fun t w=>results_tmp2 results159 t _ w) ?_;refine J.seq (J.af [.p,.p] ?_);refine .ag rfl rfl<|.ag rfl rfl<|.nil ?_;refine J.seq (J.sZ ?_);refine Tx.n rfl trivial (JS call87 rfl P6 _) (fun nb cm=>?_);dsimp only;refine Tx.q rfl trivial (aX rfl _) ?_;refine Tx.q rfl trivial (SR dW (vD:=eD) (m:=nb) (k:=k) (d:=uT) underlying123 zeroValue121 P5 rfl rfl rfl rfl) ?_;refine Tx.q rfl trivial (aX rfl _) ?_;refine Tx.q rfl trivial (dY rfl rfl _) ?_;refine Tx.q rfl trivial (dY rfl rfl _) ?_;refine Tx.q rfl trivial (jE 0 zeroValue121 rfl) ?_;refine Tx.q rfl trivial (lf sizeOf121 rfl rfl rfl (agM _) rfl rfl) ?_;refine Tx.q rfl trivial (wL rfl _) ?_;refine Tx.nil ?_;refine J.seq (J.seq (J.af [.p,.p] ?_));refine .mv rfl rfl<|.P rfl (JY rfl)<|.nil ?_;refine J.cond rfl (fun h1=>?_) (fun h1=>?_)
 ·refine J.seq (J.af [.p,.p] ?_);refine .ag rfl rfl<|.ag rfl rfl<|.nil ?_;refine J.ret (?_);exact p6 rfl rfl (Sub.int (by exact(LU cm h1).1)) (Sub.int (by exact(LU cm h1).2))
 ·refine J.skip ?_;refine J.seq (J.af [.p,.r,.p,.p] ?_);refine .P rfl (hZ (n:=0) 3 1 underlying121 sizeOf3 rfl rfl)<|.R rfl (iK isAgg3 rfl rfl rfl)<|.ag rfl rfl<|.ag rfl rfl<|.nil ?_;refine J.ret (?_);exact p6 rfl rfl (Sub.int (by exact(LS cm h1).1)) (Sub.int (by exact(LS cm h1).2))
def uv:List Int→Int
 |[]=>0
 |x::r=>if x≠0 then x else uv r
def l_(a b:Int):Int:=if a<b then -1 else if b<a then 1 else 0
theorem WQ(a b:aa):mJ a b=if decide (a≠b)=true then(if aa.lt a b=true then -1 else 1)else 0:=by
 unfold mJ;by_cases h:a=b
 ·subst h;rw[IN];simp
 ·have e:decide (a≠b)=true:=by simpa using h
  rw[e];by_cases h1:aa.lt a b=true
  ·simp[h1]
  ·have h2:aa.lt b a=true:=by
    rw[AR]at*;exact Decidable.byContradiction fun k=>h (List.le_antisymm (List.not_lt.1 k) (List.not_lt.1 h1))
   simp[h1,h2]
theorem WH(a b:Fact):uv [l_ a.day b.day,l_ (fC a.kind) (fC b.kind),mJ a.key b.key]=jN a b:=by
 simp only[uv,WQ];unfold jN l_;by_cases h1:a.day=b.day
 ·by_cases h2:fC a.kind=fC b.kind
  ·by_cases h3:a.key=b.key
   ·simp[h1,h2,h3]
   ·by_cases h4:aa.lt a.key b.key=true<;>simp[h1,h2,h3,h4]
  ·by_cases h4:fC a.kind<fC b.kind
   ·simp[h1,h2,h4]
   ·have h5:fC b.kind<fC a.kind:=by omega
    simp[h1,h2,h4,h5]
 ·by_cases h4:a.day<b.day
  ·simp[h1,h4]
  ·have h5:b.day<a.day:=by omega
   simp[h1,h4,h5]
structure ag8(l:List Int)where
 pre:List Int
 rest:List Int
 hx:l=pre++rest
 hp:uv rest=uv l
theorem ag7(l:List Int):Fc Tryz.prog 160 [.snap 1 true (l.map fun n=>[.i n])] (.i (uv l)):=by
 refine Fc.mk' [2] func160 rfl ntmps160 rfl rfl rfl (fun t w=>results_tmp results160 t _ w) ?_;refine J.ej 0 rfl (fun hb=>?_);simp only[List.length_map,aG]at hb;refine J.seq (J.af [.p] ?_);refine .ag rfl rfl<|.nil ?_;refine J.seq (J.af [.p] ?_);refine .ag rfl rfl<|.nil ?_;refine J.seq (J.seq (J.af [.p,.p,.p] ?_));refine .mv rfl rfl<|.P rfl (dE underlying25 rfl)<|.mv rfl rfl<|.nil ?_;refine J.block ?_;refine J.loop (ι:=ag8 l) (fun sx=>[(3,.i 0),(6,.snap 1 true (l.map fun n=>[.i n])),(7,.i l.length),(8,.i sx.pre.length)]) (fun sx=>[]) (fun sx=>sx.rest.length) ⟨[],l,rfl,rfl⟩ ?_ ?_
 ·exact Le.mk rfl (.s rfl rfl (.s rfl rfl (.cons rfl (Sub.int zS) rfl (.s rfl rfl .nil)))) .nil
 ·rintro⟨pre,rest,hx,hp⟩;show J _ _ _ _ [(3,.i 0),(6,.snap 1 true (l.map fun n=>[.i n])),(7,.i l.length),(8,.i pre.length)] [];have hl:=congrArg List.length hx;simp only[List.length_append]at hl;rcases rest with _|⟨x,rest⟩
  ·skip;refine J.seq (J.af [.p] ?_);refine .P rfl (b_ rfl rfl)<|.nil ?_;refine J.seq ?_;refine J.eQ rfl (by simp at hl⊢;omega) ?_;refine J.exit (ei (dZ ?_));refine J.seq (J.af [.p,.p] ?_);refine .mv rfl rfl<|.ag rfl rfl<|.nil ?_;refine J.ret (?_);exact dF rfl (Sub.int (by rw[←hp];rfl))
  ·simp only[List.length_cons]at hl;refine J.seq (J.af [.p] ?_);refine .P rfl (b_ rfl rfl)<|.nil ?_;refine J.seq ?_;refine J.fD rfl zQ ?_;refine J.skip ?_;refine J.seq ?_;refine J.block ?_;refine J.seq (J.af [.p,.p,.p] ?_);refine .P rfl (fY underlying25 sizeOf3 rfl rfl zO (bn (fun n=>[D.i n]) hx rfl))<|.P rfl (bX isAgg3 rfl)<|.ag rfl rfl<|.nil ?_;refine J.seq (J.af [.p,.p,.p] ?_);refine .mv rfl rfl<|.mv rfl rfl<|.P rfl (wO rfl rfl)<|.nil ?_;refine J.cond rfl (fun h1=>?_) (fun h1=>?_)
   ·have bE:=h1;try simp only[bs]at bE
    refine J.seq (J.af [.p,.p] ?_);refine .mv rfl rfl<|.ag rfl rfl<|.nil ?_;refine J.ret (jn (rr (jn (?_))));exact dF rfl (Sub.int (by rw[←hp];simp[uv];omega))
   ·refine J.skip ?_;refine J.nil (cC ?_);refine J.af [.p,.p] ?_;refine .P rfl (bU rfl rfl (az zO))<|.mv rfl rfl<|.nil ?_;refine J.nil (dG ?_);exact⟨⟨pre++[x],rest,by simp[hx],by rw[←hp];simp at*;simp[uv, *]⟩,by simp,Le.mk rfl (.s rfl rfl (.s rfl rfl (.s rfl rfl (.cons rfl (Sub.int zS) rfl .nil)))) .nil⟩
theorem PR(d:Int):Fc Tryz.prog 207 [.i d] (.b false):=by
 refine Fc.mk' [2] func207 rfl ntmps207 rfl rfl rfl (fun t w=>results_tmp results207 t _ w) ?_;refine go [] ?_;exact ah rfl (Sub.bool zS)
theorem WE(a b:Int):Fc Tryz.prog 161 [.i a,.i b] (.i (l_ a b)):=by
 refine Fc.mk' [4] func161 rfl ntmps161 rfl rfl rfl (fun t w=>results_tmp results161 t _ w) ?_;refine go [] ?_;refine oP (ai call207 rfl (PR _)) ?_;refine oP (ai call207 rfl (PR _)) ?_;refine aR rfl ?_;refine aR rfl ?_;refine br (fun h1=>?_) (fun h1=>?_)
 ·exact ah rfl (Sub.int (by grind[l_]))
 ·refine br (fun h2=>?_) (fun h2=>?_)
  ·exact ah rfl (Sub.int (by grind[l_]))
  ·exact ah rfl (Sub.int (by grind[l_]))
theorem PS(d:Int):Fc Tryz.prog 208 [.i d] (.b false):=by
 refine Fc.mk' [2] func208 rfl ntmps208 rfl rfl rfl (fun t w=>results_tmp results208 t _ w) ?_;refine go [] ?_;exact ah rfl (Sub.bool zS)
theorem WK(a b:Int):Fc Tryz.prog 162 [.i a,.i b] (.i (l_ a b)):=by
 refine Fc.mk' [4] func162 rfl ntmps162 rfl rfl rfl (fun t w=>results_tmp results162 t _ w) ?_;refine go [] ?_;refine oP (ai call208 rfl (PS _)) ?_;refine oP (ai call208 rfl (PS _)) ?_;refine aR rfl ?_;refine aR rfl ?_;refine br (fun h1=>?_) (fun h1=>?_)
 ·exact ah rfl (Sub.int (by grind[l_]))
 ·refine br (fun h2=>?_) (fun h2=>?_)
  ·exact ah rfl (Sub.int (by grind[l_]))
  ·exact ah rfl (Sub.int (by grind[l_]))
theorem WI(a b:Fact):Fc Tryz.prog 108 [.agg (aM a),.agg (aM b)] (.i (jN a b)):=by
 refine Fc.mk' [4] func108 rfl ntmps108 rfl rfl rfl (fun t w=>results_tmp results108 t _ w) ?_;refine go [] ?_;refine oP (ai call159 rfl (LW _)) ?_;refine oP (ai call159 rfl (LW _)) ?_;refine oP (ai call161 rfl (WE _ _)) ?_;refine oP (ai call162 rfl (WK _ _)) ?_;refine oP (ai call132 rfl (L1 _ _)) ?_;refine oP (bI (n:=3) (rows:=[l_ a.day b.day,l_ (fC a.kind) (fC b.kind),mJ a.key b.key].map fun n=>[D.i n]) underlying25 sizeOf3 rfl rfl rfl zeroValue3 rfl rfl rfl rfl rfl rfl rfl) ?_;refine oP (ai call160 rfl (ag7 [l_ a.day b.day,l_ (fC a.kind) (fC b.kind),mJ a.key b.key])) ?_;refine ord ?_;exact ah rfl (Sub.int (by exact WH a b))
theorem ad0(y:Fact)(k:aa):Fc Tryz.prog 68 [.agg (aM y),.aY [.str k]] (.b (decide (y.key=k))):=by
 refine Fc.mk' [3] func68 rfl ntmps68 rfl rfl rfl (fun t w=>results_tmp results68 t _ w) ?_;refine go [] ?_;exact ah rfl (Sub.refl _)
theorem aa1(l:List Fact)(k:aa):Fc Tryz.prog 27 [bz l,.str k] (.bf [.i (max (ja (fun y:Fact=>decide (y.key=k)) l) 0),.b (l.any (fun y:Fact=>decide (y.key=k)))]):=by
 refine Fc.mk' [4,5] func27 rfl ntmps27 rfl rfl rfl (fun t w=>results_tmp2 results27 t _ w) ?_;refine go [1] ?_;refine J.bP (Le.gg 3 0 rfl rfl rfl rfl) ?_;refine go [] ?_;refine oP (ai call67 rfl (PF l _ [.aY [.str k]] rfl (fun y:Fact=>decide (y.key=k)) call68 (fun y _=>ad0 y k))) ?_;exact gS rfl rfl (Sub.refl _) (Sub.bool (by exact vx _ l))
end Go.T
namespace Go.T
open Go
theorem LR{u:UM}(hn:(aD u).Nodup)(x:aa):(iP u x).Nodup:=((ll _).nodup_iff).2 (hn.filter _)
theorem ab5{u:UM}(hn:(aD u).Nodup):(fG u).flatten.Nodup:=by
 have hl:(eW ((aD u).filter (kS u))).Nodup:=((ll _).nodup_iff).2 (hn.filter _);unfold fG List.Nodup;rw[List.pairwise_flatten];constructor
 ·intro l hl;obtain⟨x,_,rfl⟩:=List.mem_map.1 hl;exact LR hn x
 ·rw[List.pairwise_map];refine List.Pairwise.imp_of_mem ?_ hl;intro x y hx hy aB z hz w hw e;subst e;apply aB;obtain⟨kx,lx⟩:=qV.1 hx;obtain⟨ky,ly⟩:=qV.1 hy;unfold iP at hz hw;rw[qW,List.mem_filter,decide_eq_true_eq]at hz hw;unfold kS at lx ly;simp only[List.all_eq_true,decide_eq_true_eq]at lx ly;exact List.le_antisymm (lx y ky (hw.2.symm.trans hz.2)) (ly x kx (hz.2.symm.trans hw.2))
theorem N6{u:UM}(hn:(aD u).Nodup):∀g∈fG u,g≠[]∧g.Pairwise fun a b=>aa.lt a b=true:=by
 intro g hg;unfold fG at hg;obtain⟨x,hx,rfl⟩:=List.mem_map.1 hg;constructor
 ·have:=tv (qV.1 hx).1;unfold iP;exact List.ne_nil_of_mem (qW.2 this)
 ·have h1:(iP u x).Pairwise fun a b=>a≤b:=uG _;have h2:(iP u x).Pairwise fun a b=>a≠b:=LR hn x;exact(h1.and h2).imp fun h=>aeX h.1 h.2
theorem ab6{u:UM}(x:aa):x∈(fG u).flatten↔x∈aD u:=by
 rw[List.mem_flatten];constructor
 ·rintro⟨g,hg,hx⟩;obtain⟨y,_,h⟩:=ab7 hg;exact((h x).1 hx).1
 ·intro hx;obtain⟨g,hg,h⟩:=Hf hx;exact⟨g,hg,(h x).2 ⟨hx,rfl⟩⟩
structure UT(Ls:List (List aa)):Prop where
 flat:(kI Ls).flatten.Nodup
 ne:∀g∈kI Ls,g≠[]
 strict:∀g∈kI Ls,g.Pairwise fun a b=>aa.lt a b=true
 keys:∀x,x∈(kI Ls).flatten↔named Ls x
 inn:∀r∈Ls,r≠[]→∃g∈kI Ls,∀x∈r,x∈g
theorem Dk(Ls:List (List aa)):UT Ls:=by
 obtain⟨u,hu⟩:=Kd Ls;have e:=Hg hu;refine⟨by rw[←e];exact ab5 hu.nd,fun g hg=>(N6 hu.nd g (e▸hg)).1,fun g hg=>(N6 hu.nd g (e▸hg)).2,fun x=>by rw[←e,ab6];exact hu.keys x,fun r hr aB=>?_⟩;rw[←e];obtain⟨a,l,rfl⟩:=List.exists_cons_of_ne_nil aB;have ha:a∈aD u:=(hu.keys a).2 ⟨_,hr,by simp⟩;obtain⟨g,hg,h⟩:=Hf ha;refine⟨g,hg,fun x hx=>(h x).2 ?_⟩;have hk:x∈aD u:=(hu.keys x).2 ⟨_,hr,hx⟩;exact⟨hk,(hu.conn x a hk ha).2 (.one hr hx zS)⟩
theorem Rj{s:aa}(h:iq s=0):isName s=true:=by
 unfold iq at h;by_cases k:(!isName s)=true
 ·rw[if_pos k]at h;cases h
 ·simpa using k
theorem PO{t:List cp}:∀(l pre:List bJ),pM t pre l=0→∀x∈l,isName x.id=true
 |[],_,_,x,hx=>by cases hx
 |y::r,pre,h,x,hx=>by
  rw[pM]at h;by_cases k:decide (nU pre y t≠0)=true
  ·rw[if_pos k]at h;exact absurd h (of_decide_eq_true k)
  ·rw[if_neg k]at h;rcases List.mem_cons.1 hx with rfl|hx
   ·have h0:nU pre x t=0:=by simpa using k
    unfold nU at h0;by_cases k2:decide (ke x≠0)=true
    ·rw[if_pos k2]at h0;exact absurd h0 (of_decide_eq_true k2)
    ·have h1:ke x=0:=by simpa using k2
     unfold ke at h1;by_cases k3:(!isName x.id)=true
     ·rw[if_pos k3]at h1;cases h1
     ·simpa using k3
   ·exact PO r _ h x hx
theorem ai'{s:Setup}(h:mI s.insts s.qm=0):∀x∈s.insts,isName x.id=true:=by
 unfold mI at h;by_cases k1:decide (pv s.qm≠0)=true
 ·rw[if_pos k1]at h;cases h
 rw[if_neg k1]at h;by_cases k2:decide (64<(s.insts.length:Int))=true
 ·rw[if_pos k2]at h;cases h
 rw[if_neg k2]at h;exact PO _ _ h
theorem GM{f:Fact}{r:ir}:∀l:List Int,jr f r l=0→∀n∈l,(iV r n.toNat=true→dw f r.code n (mr r n)=0)∧(iV r n.toNat=false→cS f n=true)
 |[],_,n,hn=>by cases hn
 |m::l,h,n,hn=>by
  rw[jr]at h;by_cases k:iV r m.toNat=true
  ·rw[if_pos k]at h;by_cases k2:decide (dw f r.code m (mr r m)≠0)=true
   ·rw[if_pos k2]at h;exact absurd h (of_decide_eq_true k2)
   ·rw[if_neg k2]at h;rcases List.mem_cons.1 hn with rfl|hn
    ·exact⟨fun _=>by simpa using k2,fun e=>by rw[k]at e;cases e⟩
    ·exact GM l h n hn
  ·rw[if_neg k]at h;by_cases k2:(!cS f m)=true
   ·rw[if_pos k2]at h;cases h
   ·rw[if_neg k2]at h;rcases List.mem_cons.1 hn with rfl|hn
    ·exact⟨fun e=>absurd e k,fun _=>by simpa using k2⟩
    ·exact GM l h n hn
theorem R1{i:aa}:∀l:List cR,mA i l=0→∀o∈l,o.other≠[]→isName o.other=true
 |[],_,o,ho,_=>by cases ho
 |p::r,h,o,ho,aB=>by
  rw[mA,wF]at h;by_cases k1:(decide (p.other≠[])&&!isName p.other)=true
  ·rw[if_pos k1]at h;cases h
  rw[if_neg k1]at h;by_cases k2:decide (p.other=i)=true
  ·rw[if_pos k2]at h;cases h
  rw[if_neg k2]at h;rcases List.mem_cons.1 ho with rfl|ho
  ·simp only[Bool.and_eq_true,decide_eq_true_eq,Bool.not_eq_true',not_and,Bool.not_eq_false]at k1;exact k1 aB
  ·refine R1 (i:=i) r ?_ o ho aB;have key:∀(l:List aP)(d:Int),kU l d=0→d=0:=by
    intro l;induction l with
    |nil=>intro d h;exact h
    |cons x l ih=>
     intro d h;rw[kU]at h;by_cases k:decide (eF false false x≠0)=true
     ·rw[if_pos k]at h;exact absurd h (of_decide_eq_true k)
     ·rw[if_neg k]at h;exact ih d h
   have h:=key _ _ h;by_cases k3:yN p=true
   ·rw[if_pos k3]at h;cases h
   ·rw[if_neg k3]at h;exact h
theorem aeb{f:Fact}(h:t_ f=true){r:ir}(hr:dC f.kind=some r):iV r 1=true∧r.code=false:=by
 have hk:f.kind=9∨f.kind=12:=by
  unfold t_ at h;simpa using h
 rcases hk with hk|hk<;>(rw[hk]at hr;have hr:=Option.some.inj hr;subst hr;decide)
theorem aaw{f:Fact}(h:eP f=0):∀x∈cq f,isName x=true:=by
 intro x hx;obtain⟨hm,aB⟩:=QY.1 hx;unfold eP at h;by_cases k1:(!isName f.key)=true
 ·rw[if_pos k1]at h;cases h
 rw[if_neg k1]at h;by_cases k2:decide (f.ib<0)=true
 ·rw[if_pos k2]at h;cases h
 rw[if_neg k2]at h;by_cases k3:f.cancelled=true
 ·rw[if_pos k3]at h;by_cases k4:(!wX f (uR f))=true
  ·rw[if_pos k4]at h;cases h
  ·have k5:(gf.any (fun n=>!cS f n)||(decide (f.day≠0)||decide (f.kind≠0)))=false:=by rw[←Us k3];simpa using k4
   rw[Bool.or_eq_false_iff]at k5;have e:=fun n hn=>List.any_eq_false.1 k5.1 n hn;have e0:cS f 0=true:=by simpa using e 0 zD
   have e1:cS f 1=true:=by simpa using e 1 zD
   have YO:cS f 11=true:=by simpa using e 11 zD
   have f0:f.eY=[]:=of_decide_eq_true e0;have f1:f.other=[]:=of_decide_eq_true e1;have f11:f.opts=[]:=by
    have:=of_decide_eq_true YO;exact List.length_eq_zero_iff.1 zO
   unfold eC fU at hm;rw[f0,f1,f11]at hm;exfalso;apply aB;split at hm<;>simpa using hm
 rw[if_neg k3]at h;by_cases k4:(decide (f.day< -25567)||decide (84005<f.day))=true
 ·rw[if_pos k4]at h;cases h
 rw[if_neg k4]at h;unfold ua at h;cases hr:dC f.kind with
 |none=>rw[hr]at h;cases h
 |some r=>
  rw[hr]at h;have hf:=GM gf h;have g0:f.eY=[]∨isName f.eY=true:=by
   have:=hf 0 zD;cases k:iV r 0 with
   |true=>exact .inr (Rj (this.1 k))
   |false=>exact .inl (of_decide_eq_true (this.2 k))
  have g1:t_ f=true→isName f.other=true:=by
   intro hk;obtain⟨a,b⟩:=aeb hk hr;have:=(hf 1 zD).1 a;rw[b]at this;have this:kl f false=0:=this;unfold kl at this;rw[if_neg zS]at this;by_cases k:decide (iq f.other≠0)=true
   ·rw[if_pos k]at this;exact absurd this (of_decide_eq_true k)
   ·exact Rj (by simpa using k)
  have g2:∀o∈f.opts,o.other≠[]→isName o.other=true:=by
   have:=hf 11 zD;cases k:iV r 11 with
   |true=>
    have h2:nn f=0:=this.1 k;unfold nn at h2;by_cases c1:decide ((f.opts.length:Int)=0)=true
    ·rw[if_pos c1]at h2;cases h2
    rw[if_neg c1]at h2;by_cases c2:decide (8<(f.opts.length:Int))=true
    ·rw[if_pos c2]at h2;cases h2
    rw[if_neg c2]at h2;exact R1 _ h2
   |false=>
    have:f.opts=[]:=by
     have:=of_decide_eq_true (this.2 k);exact List.length_eq_zero_iff.1 zO
    rw[this];intro o ho;cases ho
  unfold eC fU at hm;rcases List.mem_append.1 hm with hm|hm
  ·by_cases k:t_ f=true
   ·rw[if_pos k]at hm;simp only[List.singleton_append,List.mem_cons,List.not_mem_nil,or_false]at hm;rcases hm with rfl|rfl
    ·exact g0.resolve_left aB
    ·exact g1 k
   ·rw[if_neg k]at hm;simp at hm;subst hm;exact g0.resolve_left aB
  ·obtain⟨o,ho,rfl⟩:=List.mem_map.1 hm;exact g2 o ho aB
theorem al'{s:Setup}{l:List Fact}(h:lX s l=false):mI s.insts s.qm=0∧∀f∈l,eP f=0:=by
 simp only[lX,Bool.or_eq_false_iff,Bool.not_eq_false',decide_eq_true_eq]at h;exact⟨h.1,fun f hf=>by simpa using List.any_eq_false.1 h.2 f hf⟩
theorem Yl{s:Setup}{l:List Fact}(h:lX s l=false){x:aa}(hx:named (gL s l) x):isName x=true:=by
 obtain⟨h1,h2⟩:=al' h;rcases List.mem_append.1 (Gj hx)with hx|hx
 ·obtain⟨i,hi,rfl⟩:=List.mem_map.1 hx;exact ai' h1 i hi
 ·obtain⟨r,hr,hx⟩:=List.mem_flatten.1 hx;obtain⟨f,hf,rfl⟩:=List.mem_map.1 hr;exact aaw (h2 f hf) x hx
theorem acb{s:Setup}{l:List Fact}(h:lX s l=false):qb (bD s l)=true:=by
 have g:=Dk (gL s l);exact alI g.ne (fun r hr x hx=>Yl h ((g.keys x).1 (List.mem_flatten.2 ⟨r,hr,hx⟩))) g.strict g.flat
theorem Hi(s:Setup)(l:List Fact):(bD s l).flatten.Nodup:=by
 show(List.flatten ([]::kI (gL s l))).Nodup;rw[List.flatten_cons,List.nil_append];exact(Dk _).flat
def oB(l:List aa)(x:aa):Int:=((l.filter fun y=>decide (y=x)).length:Int)
theorem F6:∀{l:List aa}{x:aa},x∉l→oB l x=0
 |[],x,_=>rfl
 |a::l,x,h=>by
  simp only[List.mem_cons,not_or]at h;have:=F6 h.2;unfold oB at*;rw[List.filter_cons,if_neg (by simpa using fun e=>h.1 e.symm)];exact this
theorem F5:∀{l:List aa}{x:aa},l.Nodup→x∈l→oB l x=1
 |[],x,_,h=>by cases h
 |a::l,x,hn,h=>by
  rw[List.nodup_cons]at hn;by_cases e:a=x
  ·subst e;have:=F6 hn.1;unfold oB at*;rw[List.filter_cons,if_pos zS,List.length_cons];omega
  ·have:=F5 hn.2 ((List.mem_cons.1 h).resolve_left fun k=>e k.symm);unfold oB at*;rw[List.filter_cons,if_neg (by simpa using e)];exact this
theorem WY(l:List aa)(a x:aa):oB (l++[a]) x=oB l x+if a=x then 1 else 0:=by
 unfold oB;rw[List.filter_append,List.length_append];by_cases e:a=x<;>simp[e]
theorem af6{s:Setup}{l:List Fact}{x:bJ}(hx:x∈s.insts):named (gL s l) x.id:=⟨[x.id],by unfold gL;simp only[List.mem_append,List.mem_map];exact .inl (.inl ⟨x,hx,rfl⟩),by simp⟩
theorem Mz{s:Setup}{l:List Fact}{f:Fact}(hf:f∈l):cq f∈gL s l:=by
 unfold gL;simp only[List.mem_append,List.mem_map];exact .inl (.inr ⟨f,hf,rfl⟩)
theorem L'{s:Setup}{l:List Fact}{x:aa}(h:named (gL s l) x):oB (bD s l).flatten x=1:=by
 refine F5 (Hi s l) ?_;show x∈(List.flatten ([]::kI (gL s l)));rw[List.flatten_cons,List.nil_append];exact((Dk _).keys x).2 h
theorem alV{gs:List (List aa)}(hn:gs.flatten.Nodup){i:Nat}{g:List aa}(hi:gs[i]?=some g){x:aa}(hx:x∈g):fy gs x=i:=by
 obtain⟨bw,e⟩:=List.getElem?_eq_some_iff.1 hi;have hp:∀h:List aa,(h.any fun m=>decide (x=m))=true↔x∈h:=fun h=>by
  rw[List.any_eq_true];constructor
  ·rintro⟨m,hm,k⟩;rw[of_decide_eq_true k];exact hm
  ·intro hm;exact⟨x,hm,decide_eq_true rfl⟩
 have ack:(gs.any fun g:List aa=>g.any fun m=>decide (x=m))=true:=List.any_eq_true.2 ⟨g,List.mem_of_getElem? hi,(hp g).2 hx⟩;unfold fy ja;rw[if_pos ack]
 congr 1
 rw[List.findIdx_eq bw];refine⟨by rw[e];exact(hp g).2 hx,fun j hj=>?_⟩;cases k:(gs[j].any fun m=>decide (x=m))with
 |false=>rfl
 |true=>
  exfalso;have j_:=(hp _).1 k;have Ic:=(List.pairwise_flatten.1 hn).2;exact List.pairwise_iff_getElem.1 Ic j i zO bw hj x j_ x (by rw[e];exact hx) rfl
theorem agF{s:Setup}{l:List Fact}{f:Fact}(hf:f∈l):∃k:Nat,k<(bD s l).length∧iz (bD s l) (cq f)=((k:Int),0):=by
 by_cases e:cq f=[]
 ·refine⟨0,by simp[bD],?_⟩;rw[e];exact RI zO (fun x hx=>by cases hx) (fun _=>rfl)
 ·obtain⟨g,hg,h⟩:=(Dk (gL s l)).inn _ (Mz hf) e;obtain⟨i,hi⟩:=List.getElem?_of_mem hg;have jQ:(bD s l)[i+1]?=some g:=hi;refine⟨i+1,(List.getElem?_eq_some_iff.1 jQ).1,?_⟩;exact RI zO (fun x hx=>alV (Hi s l) jQ (h x hx)) (fun k=>absurd k e)
def nh(gs:List (List aa))(f:Fact):Int:=(iz gs (cq f)).1
def hY(gs:List (List aa))(v:List Fact)(i:Int):List Fact:=v.filter fun f=>decide (nh gs f=i)
def mK(gs:List (List aa))(v:List Fact)(n:Nat):Int:=((v.filter fun f=>decide (nh gs f<(n:Int))).length:Int)
theorem L2(gs:List (List aa))(n:Nat):∀v:List Fact,mK gs v (n+1)=mK gs v n+((hY gs v n).length:Int)
 |[]=>rfl
 |f::r=>by
  have ih:=L2 gs n r;unfold mK hY at*;rw[List.filter_cons,List.filter_cons,List.filter_cons];rcases Int.lt_trichotomy (nh gs f) (n:Int)with h|h|h
  ·rw[if_pos zQ,if_pos (by simpa using h),if_neg zQ];simp only[List.length_cons];omega
  ·rw[if_pos zQ,if_neg zQ,if_pos (by simpa using h)];simp only[List.length_cons];omega
  ·rw[if_neg zQ,if_neg zQ,if_neg zQ];exact ih
theorem WV{gs:List (List aa)}{v:List Fact}(h:∀f∈v,0≤nh gs f):mK gs v 0=0:=by
 unfold mK;have:v.filter (fun f=>decide (nh gs f<((0:Nat):Int)))=[]:=by
  rw[List.filter_eq_nil_iff];intro f hf;have:=h f hf;simp;omega
 rw[this];rfl
theorem WT{gs:List (List aa)}{v:List Fact}{n:Nat}(h:∀f∈v,nh gs f<(n:Int)):mK gs v n=(v.length:Int):=by
 unfold mK;rw[List.filter_eq_self.2 fun f hf=>by simpa using h f hf]
theorem Jq{s:Setup}{l:List Fact}:∀f∈l,0≤nh (bD s l) f∧nh (bD s l) f<((bD s l).length:Int)∧(iz (bD s l) (cq f)).2=0:=fun f hf=>by
 obtain⟨k,hk,e⟩:=agF (s:=s) hf;unfold nh;rw[e];exact⟨by simp,by omega,rfl⟩
theorem ahl{gs:List (List aa)}{v:List Fact}(h:ta v)(i:Int):l9 (hY gs v i)=0:=(Cs _).2 (h.sub List.filter_sublist)
theorem Uq{v pre rest:List Fact}{x:Fact}(h:ta v)(hx:v=pre++x::rest):ja (fun g=>decide (g.key=x.key)) v=(pre.length:Int):=by
 refine(tG hx ?_ zS).symm;rw[List.any_eq_false];intro g hg;have hk:=h.keys;rw[hx]at hk;have:=(List.pairwise_append.1 hk).2.2 g hg x zS;simpa using this
theorem ahk{gs:List (List aa)}{v pre rest:List Fact}{x:Fact}{i:Int}(hx:hY gs v i=pre++x::rest):x∈v∧nh gs x=i:=by
 have:x∈hY gs v i:=by rw[hx];simp
 have:=List.mem_filter.1 this;exact⟨this.1,of_decide_eq_true this.2⟩
theorem G9{κ β:Type}[DecidableEq κ](d:β)(k:κ)(v:β)(q:κ):∀m:List (κ×β),cN d (dm m k v) q=if q=k then v else cN d m q
 |[]=>by by_cases h:q=k<;>simp[dm,cN,h]
 |(a,u)::r=>by
  have ih:=G9 d k v q r;by_cases h:k=a
  ·subst h;by_cases h2:q=k<;>simp[dm,cN,h2]
  ·simp only[dm,if_neg h,cN,ih];by_cases h2:q=a
   ·subst h2;have:q≠k:=fun e=>h e.symm;simp[this]
   ·simp[h2]
def p8(l:List aa):List (aa×Bool):=l.foldl (fun m x=>dm m x true) []
theorem Kl(l:List aa)(x:aa):p8 (l++[x])=dm (p8 l) x true:=by unfold p8;rw[List.foldl_append];rfl
theorem Kk(l:List aa)(x:aa):cN false (p8 l) x=l.any (fun y=>decide (y=x)):=by
 induction l using pd with
 |h0=>rfl
 |h1 i a ih=>
  rw[Kl,G9,ih,List.any_append];by_cases h:x=a
  ·subst h;simp
  ·rw[if_neg h];have:decide (a=x)=false:=by simpa using fun e=>h e.symm
   simp[this]
theorem Kh(l:List Fact)(x:aa):cN false (p8 (l.map fun y=>y.key)) x=l.any (fun y=>decide (y.key=x)):=by
 rw[Kk,List.any_map];rfl
theorem Ui(w:World)(O:Nat→Prop)(ρ:aA):V w O ρ (D.b false) (.bool false):=by simp[V,D.b]
def j5(l:List aa):List (aa×Int):=l.foldl (fun m x=>dm m x (cN 0 m x+1)) []
theorem L3(l:List aa)(x:aa):j5 (l++[x])=dm (j5 l) x (cN 0 (j5 l) x+1):=by unfold j5;rw[List.foldl_append];rfl
theorem F4(l:List aa)(x:aa):cN 0 (j5 l) x=oB l x:=by
 induction l using pd with
 |h0=>rfl
 |h1 i a ih=>
  rw[L3,G9,WY];by_cases h:x=a
  ·subst h;rw[if_pos rfl,if_pos rfl,ih]
  ·rw[if_neg h,if_neg (fun e=>h e.symm),ih];omega
theorem KO(w:World)(O:Nat→Prop)(ρ:aA):V w O ρ (D.i 0) (.int .i64 0):=by simp[V,D.i]
theorem RT(f:Nat→Bool){β:Type}(vD:β→D)(hv:∀b,(vD b).okB f=true)(m:List (aa×β)):Ob.okB f (.mp (aS D.str vD m))=true:=by
 have h:∀l:List (aa×β),D.okB.eV f (l.map fun p=>D.str p.1)=true∧D.okB.eV f (l.map fun p=>vD p.2)=true:=by
  intro l;induction l with
  |nil=>exact⟨rfl,rfl⟩
  |cons a l ih=>
   refine⟨?_,?_⟩
   ·simp only[List.map_cons,D.okB.eV,D.okB,ih.1];rfl
   ·simp only[List.map_cons,D.okB.eV,hv,ih.2];rfl
 have e1:(aS D.str vD m).map (·.1)=m.map fun p=>D.str p.1:=by simp[aS]
 have e2:(aS D.str vD m).map (·.2)=m.map fun p=>vD p.2:=by simp[aS]
 simp only[Ob.okB,e1,e2,(h m).1,(h m).2];rfl
theorem yJ(f:Nat→Bool)(m:List (aa×Bool)):Ob.okB f (.mp (aS D.str D.b m))=true:=RT f D.b (fun _=>rfl) m
open Go.Proofs Go.Proofs.Tryz
set_option maxRecDepth 20000
structure alQ(l:List Fact)(hf:∀f∈l,kC f)where
 pre:List Fact
 rest:List Fact
 hx:l=pre++rest
 hp:l9 l=pn pre rest
 Ab:l.length≤1000
theorem alP(l:List Fact)(hf:∀f∈l,kC f):Fc Tryz.prog 65 [bz l] (.i (l9 l)):=by
 refine Fc.mk' [2] func65 rfl ntmps65 rfl rfl rfl (fun t w=>results_tmp results65 t _ w) ?_;refine J.ej 0 rfl (fun hb=>?_);simp only[List.length_map,aG]at hb;refine go [] ?_;refine br (fun h1=>?_) (fun h1=>?_)
 ·exact ah rfl (Sub.int (by(unfold l9;exact iT (by simpa using h1))))
 ·refine oW (kn 0 D.str (D.b) rfl) ?_;refine J.loop (ι:=alQ l hf) (fun sx=>[(0,bz l),(3,.bu 0),(11,bz l),(12,.i l.length),(13,.i sx.pre.length)]) (fun sx=>[(0,.mp (aS D.str D.b (p8 (sx.pre.map fun y=>y.key))))]) (fun sx=>sx.rest.length) ⟨[],_,rfl,by unfold l9;rw[if_neg (by simpa using h1)],by simp at h1;omega⟩ ?_ ?_
  ·exact Le.mk rfl (.s rfl rfl (.s rfl rfl (.s rfl rfl (.cons rfl (Sub.int zS) rfl (.s rfl rfl .nil))))) (.eq rfl (by rfl) (yJ _ _) .nil)
  ·rintro⟨pre,rest,hx,hp,Ab⟩;show J _ _ _ _ [(0,bz l),(3,.bu 0),(11,bz l),(12,.i l.length),(13,.i pre.length)] [(0,.mp (aS D.str D.b (p8 (pre.map fun y=>y.key))))];have hl:=congrArg List.length hx;simp only[List.length_append]at hl;rcases rest with _|⟨x,rest⟩
   ·skip;refine go [] ?_;refine aR (by simp at hl⊢;omega) ?_;refine go [] ?_;exact ah rfl (Sub.int (by exact hp.symm))
   ·simp only[List.length_cons]at hl;refine go [] ?_;refine a_ zQ ?_;refine ix zO (bn aM hx rfl) ?_;refine oP (ai call44 rfl (F1 x (hf x (by rw[hx];simp)))) ?_;refine br (fun h2=>?_) (fun h2=>?_)
    ·exact ah rfl (Sub.int (by exact rv hp (Uj h2) (of_decide_eq_true h2)))
    ·refine br (fun h3=>?_) (fun h3=>?_)
     ·exact ah rfl (Sub.int (by exact rv hp (Uk h2 h3) zD))
     ·refine br (fun h4=>?_) (fun h4=>?_)
      ·exact ah rfl (Sub.int (by exact rv hp (Ul h2 h3 h4) zD))
      ·refine oR (uB ic (vD:=D.b) (k:=x.key) (d:=false) underlying137 zeroValue4 Ui rfl rfl rfl rfl) ?_;refine br (fun h5=>?_) (fun h5=>?_)
       ·exact ah rfl (Sub.int (by exact rv hp (Um h2 h3 h4 (by rw[←Kh];exact h5)) zD))
       ·refine Tu (fun hg=>eJ zO zO) ?_;refine wb (fun hg=>And.intro (by simp[lW]at hg;omega) (DJ aM hx (by simp[lW]at hg;omega) rfl)) ?_;refine gP (fun hg=>ai call108 rfl (WI (se pre) x)) ?_;refine ord ?_;refine br (fun h6=>?_) (fun h6=>?_)
        ·exact ah rfl (Sub.int (by exact rv hp (Un h2 h3 h4 (by rw[←Kh];exact h5) h6) zD))
        ·refine oW (dJ ic (vD:=D.b) (k:=x.key) (v:=true) underlying137 rfl rfl rfl rfl rfl rfl) ?_;refine sd (az zO) ?_;exact nx ⟨pre++[x],rest,by simp[hx],Up hp (KM h2 h3 h4 (by rw[←Kh];exact h5) h6),Ab⟩ zS (Le.mk rfl (.s rfl rfl (.s rfl rfl (.s rfl rfl (.s rfl rfl (.cons rfl (Sub.int zS) rfl .nil))))) (.eq rfl (by(rw[List.map_append];exact congrArg (fun z=>Ob.mp (aS D.str D.b z)) (Kl _ _).symm)) (yJ _ _) .nil))
theorem alA{gs:List (List aa)}(h:(decide ((gs.length:Int)=0)||decide (0<((gs.headD []).length:Int)))=false):qb gs=nS [] (gs.drop 1):=by unfold qb;rw[if_neg (by rw[h];simp)]
theorem alE{gs:List (List aa)}(h:(decide ((gs.length:Int)=0)||decide (0<((gs.headD []).length:Int)))=true):false=qb gs:=by unfold qb;rw[if_pos h]
theorem alB{e:Bool}{seen:List aa}{x:List aa}{r:List (List aa)}(hp:e=nS seen (x::r))(h:decide ((x.length:Int)=0)=true):false=e:=by rw[hp,nS,if_pos h]
theorem alC{e:Bool}{seen:List aa}{x:List aa}{r:List (List aa)}(hp:e=nS seen (x::r))(h:decide ((x.length:Int)=0)=false)(hq:nR seen [] x=false):false=e:=by rw[hp,nS,if_neg (by rw[h];simp),hq];rfl
theorem alD{e:Bool}{seen:List aa}{x:List aa}{r:List (List aa)}(hp:e=nS seen (x::r))(h:decide ((x.length:Int)=0)=false)(hq:nR seen [] x=true):e=nS (seen++x) r:=by rw[hp,nS,if_neg (by rw[h];simp),hq];rfl
theorem acK{gs:List (List aa)}(h:0<gs.length):(gs.map (fun v:List aa=>[D.snap 1 false (h_ v)]))[(0:Int).toNat]?=some [D.snap 1 false (h_ (gs.headD []))]:=by
 cases gs with
 |nil=>simp at h
 |cons a l=>rfl
theorem Yz{gs:List (List aa)}(n:Nat)(h:n=gs.length):((gs.map (fun v:List aa=>[D.snap 1 false (h_ v)])).drop 1).take (n-1)=(gs.drop 1).map (fun v:List aa=>[D.snap 1 false (h_ v)]):=by
 subst h;rw[←List.map_drop];exact List.take_of_length_le zS
structure alJ(gs:List (List aa))where
 pre:List (List aa)
 rest:List (List aa)
 hx:gs.drop 1=pre++rest
 hp:qb gs=nS pre.flatten rest
structure alK(gs:List (List aa))(pre:List (List aa))(x:List aa)where
 aw:List aa
 aI:List aa
 bl:x=aw++aI
 hq:nR pre.flatten [] x=nR pre.flatten aw aI
theorem Ue(gs:List (List aa)):Fc Tryz.prog 55 [dT gs] (.b (qb gs)):=by
 refine Fc.mk' [2] func55 rfl ntmps55 rfl rfl rfl (fun t w=>results_tmp results55 t _ w) ?_;refine J.ej 0 rfl (fun hb=>?_);simp only[List.length_map,aG]at hb;refine J.seq (J.af [.p] ?_);refine .ag rfl rfl<|.nil ?_;refine J.seq (J.seq (J.af [.p,.p,.p,.p,.p,.p,.p,.p,.p,.p] ?_));refine .mv rfl rfl<|.P rfl (dE underlying43 rfl)<|.P rfl (jF rfl rfl)<|.mv rfl rfl<|.gF rfl (.inl rfl) rfl rfl rfl (fun hg=>pk (fun _=>aX rfl _))<|.gF rfl (.inl rfl) rfl rfl rfl (fun hg=>pk (fun _=>fY underlying43 sizeOf48 (bj rfl (nt hg)) rfl zD (acK (List.length_pos_iff.2 (by simpa using hg))) _))<|.gF rfl (.inl rfl) rfl rfl rfl (fun hg=>pk (fun _=>bX isAgg48 (bj rfl (nt hg)) _))<|.gF rfl (.inl rfl) rfl rfl rfl (fun hg=>pk (fun _=>dE underlying48 (bj rfl (nt hg)) _))<|.gF rfl (.inl rfl) rfl rfl rfl (fun hg=>pk (fun _=>gp (bj rfl (nt hg)) rfl _))<|.P rfl (nq rfl rfl)<|.nil ?_;refine J.cond rfl (fun h1=>?_) (fun h1=>?_)
 ·refine J.seq (J.af [.p] ?_);refine .ag rfl rfl<|.nil ?_;refine J.ret (?_);exact dF rfl (Sub.bool (by exact alE (by simpa[h_]using h1)))
 ·have bE:=h1;try simp only[bs]at bE
  refine J.skip ?_;refine J.seq (J.af [.w,.p] ?_);refine .W rfl (kn 0 D.str (D.b) rfl)<|.ag rfl rfl<|.nil ?_;refine J.seq (J.seq (J.af [.p,.p,.p,.p] ?_));refine .mv rfl rfl<|.P rfl (uC underlying43 sizeOf48 rfl (l:=1) (h:=gs.length) (r:=(gs.drop 1).map (fun v:List aa=>[D.snap 1 false (h_ v)])) (.inr ⟨_,_,rfl,rfl⟩) (.inl ⟨rfl,(List.length_map _).symm⟩) (by simp at h1;omega) zS (Yz _ rfl))<|.P rfl (dE underlying43 rfl)<|.mv rfl rfl<|.nil ?_;refine J.block ?_;refine J.loop (ι:=alJ gs) (fun sx=>[(3,.bu 0),(20,dT (gs.drop 1)),(21,.i (gs.drop 1).length),(22,.i sx.pre.length)]) (fun sx=>[(0,.mp (aS D.str D.b (p8 sx.pre.flatten)))]) (fun sx=>sx.rest.length) ⟨[],_,rfl,alA (by simpa[h_]using h1)⟩ ?_ ?_
  ·exact Le.mk rfl (.s rfl rfl (.s rfl rfl (.cons rfl (Sub.int zS) rfl (.s rfl rfl .nil)))) (.eq rfl (by rfl) (yJ _ _) .nil)
  ·rintro⟨pre,rest,hx,hp⟩;show J _ _ _ _ [(3,.bu 0),(20,dT (gs.drop 1)),(21,.i (gs.drop 1).length),(22,.i pre.length)] [(0,.mp (aS D.str D.b (p8 pre.flatten)))];have hl:=congrArg List.length hx;simp only[List.length_append]at hl;have hld:(gs.drop 1).length=gs.length-1:=List.length_drop;rcases rest with _|⟨x,rest⟩
   ·skip;refine J.seq (J.af [.p] ?_);refine .P rfl (b_ rfl rfl)<|.nil ?_;refine J.seq ?_;refine J.eQ rfl (by simp at hl⊢;omega) ?_;refine J.exit (ei (dZ ?_));refine J.seq (J.af [.p] ?_);refine .ag rfl rfl<|.nil ?_;refine J.ret (?_);exact dF rfl (Sub.bool (by exact hp.symm))
   ·simp only[List.length_cons]at hl;refine J.seq (J.af [.p] ?_);refine .P rfl (b_ rfl rfl)<|.nil ?_;refine J.seq ?_;refine J.fD rfl zQ ?_;refine J.skip ?_;refine J.seq ?_;refine J.block ?_;refine J.seq (J.af [.p,.p,.p] ?_);refine .P rfl (fY underlying43 sizeOf48 rfl rfl zO (bn (fun v:List aa=>[D.snap 1 false (h_ v)]) hx rfl))<|.P rfl (bX isAgg48 rfl)<|.ag rfl rfl<|.nil ?_;refine J.seq (J.seq (J.af [.p,.p,.p] ?_));refine .mv rfl rfl<|.P rfl (dE underlying48 rfl)<|.P rfl (jF rfl rfl)<|.nil ?_;refine J.cond rfl (fun h2=>?_) (fun h2=>?_)
    ·refine J.seq (J.af [.p] ?_);refine .ag rfl rfl<|.nil ?_;refine J.ret (jn (rr (jn (?_))));exact dF rfl (Sub.bool (by exact alB hp (by simpa[h_]using h2)))
    ·have Pv:decide ((x.length:Int)=0)=false:=by simpa[h_]using h2
     refine J.ej 5 rfl (fun fp=>?_);simp only[h_,List.length_map,aG]at fp;refine J.skip ?_;refine J.seq (J.af [.p,.p,.p] ?_);refine .mv rfl rfl<|.P rfl (dE underlying48 rfl)<|.mv rfl rfl<|.nil ?_;refine J.block ?_;refine J.loop (ι:=alK gs pre x) (fun sx=>[(3,.bu 0),(5,cw x),(20,dT (gs.drop 1)),(21,.i (gs.drop 1).length),(22,.i pre.length),(29,cw x),(30,.i x.length),(31,.i sx.aw.length)]) (fun sx=>[(0,.mp (aS D.str D.b (p8 (pre.flatten++sx.aw))))]) (fun sx=>sx.aI.length) ⟨[],x,rfl,rfl⟩ ?_ ?_
     ·exact Le.mk rfl (.s rfl rfl (.s rfl rfl (.s rfl rfl (.s rfl rfl (.s rfl rfl (.s rfl rfl (.cons rfl (Sub.int zS) rfl (.s rfl rfl .nil)))))))) (.eq rfl zS (yJ _ _) .nil)
     ·rintro⟨aw,aI,bl,hq⟩;show J _ _ _ _ [(3,.bu 0),(5,cw x),(20,dT (gs.drop 1)),(21,.i (gs.drop 1).length),(22,.i pre.length),(29,cw x),(30,.i x.length),(31,.i aw.length)] [(0,.mp (aS D.str D.b (p8 (pre.flatten++aw))))];have bL:=congrArg List.length bl;simp only[List.length_append]at bL;rcases aI with _|⟨x2,aI⟩
      ·have hqt:nR pre.flatten [] x=true:=hq;refine J.seq (J.af [.p] ?_);refine .P rfl (b_ rfl rfl)<|.nil ?_;refine J.seq ?_;refine J.eQ rfl (by simp at bL⊢;omega) ?_;refine J.exit (ei (dZ ?_));refine J.nil (cC ?_);refine J.af [.p,.p] ?_;refine .P rfl (bU rfl rfl (az zO))<|.mv rfl rfl<|.nil ?_;refine J.nil (dG ?_);exact⟨⟨pre++[x],rest,by simp[hx],by rw[List.flatten_append];simpa using alD hp Pv hqt⟩,by simp,Le.mk rfl (.s rfl rfl (.s rfl rfl (.s rfl rfl (.cons rfl (Sub.int zS) rfl .nil)))) (.eq rfl (by(have e9:x=aw:=(by simpa using bl);subst e9;simp)) (yJ _ _) .nil)⟩
      ·simp only[List.length_cons]at bL;refine J.seq (J.af [.p] ?_);refine .P rfl (b_ rfl rfl)<|.nil ?_;refine J.seq ?_;refine J.fD rfl zQ ?_;refine J.skip ?_;refine J.seq ?_;refine J.block ?_;refine J.seq (J.af [.p,.p,.p,.p,.p] ?_);refine .mv rfl rfl<|.P rfl (fY underlying48 sizeOf9 rfl rfl zO (bn (fun s=>[D.str s]) bl rfl))<|.P rfl (bX isAgg9 rfl)<|.ag rfl rfl<|.ag rfl rfl<|.nil ?_;refine J.seq (J.seq (J.af [.p,.p,.p,.p,.p,.p,.p,.p,.p,.p,.p,.p,.p,.p,.p,.p,.p,.p,.p,.r,.p] ?_));refine .mv rfl rfl<|.P rfl (ai call86 rfl (yz _))<|.P rfl (JY rfl)<|.mv rfl rfl<|.gF rfl (.inl rfl) rfl rfl rfl (fun hg=>pk (fun _=>aX rfl _))<|.gF rfl (.inl rfl) rfl rfl rfl (fun hg=>pk (fun _=>gp (bj rfl (nt hg)) rfl _))<|.gF rfl (.inl rfl) rfl rfl rfl (fun hg=>pk (fun _=>aX (bj rfl (nt hg)) _)) ?_;refine .nT rfl (.inl rfl) rfl rfl rfl (fun hc hg=>pk (fun _=>aX rfl _)) ?_;refine .nT rfl (.inl rfl) rfl rfl rfl (fun hc hg=>pk (fun _=>aX rfl _)) ?_;refine .nT rfl (.inl rfl) rfl rfl rfl (fun hc hg=>pk (fun _=>dQ (bj rfl (bT hc hg)) rfl (az zO) _)) ?_;refine .nT rfl (.inl rfl) rfl rfl rfl (fun hc hg=>pk (fun _=>fY underlying48 sizeOf9 (bj rfl (bT hc hg)) (bj rfl (bT hc hg)) (by have HK:=hg;simp at HK;omega) (DJ (fun s=>[D.str s]) bl (by have HK:=hg;simp at HK;omega) rfl) _)) ?_;refine .nT rfl (.inl rfl) rfl rfl rfl (fun hc hg=>pk (fun _=>bX isAgg9 (bj rfl (bT hc hg)) _)) ?_;refine .nT rfl (.inl rfl) rfl rfl rfl (fun hc hg=>pk (fun _=>aX rfl _)) ?_;refine .nT rfl (.inl rfl) rfl rfl rfl (fun hc hg=>pk (fun _=>SN (bj rfl (bT hc hg)) (bj rfl (bT hc hg)) _)) ?_
       refine .gF rfl (.inl rfl) rfl rfl rfl (fun hg=>pk (fun _=>gD (bj rfl (nt hg)) (Jw rfl (nt hg)) _))<|.P rfl (nq rfl rfl)<|.mv rfl rfl<|.gF rfl (.inl rfl) rfl rfl rfl (fun hg=>pk (fun _=>aX rfl _))<|.gF rfl (.inl rfl) rfl rfl rfl (fun hg=>pk (fun _=>aX rfl _))<|.gF rfl (.inr rfl) rfl rfl rfl (fun hg=>rk (uB ic (vD:=D.b) (k:=x2) (d:=false) underlying137 zeroValue4 Ui (bj rfl (nt hg)) (bj rfl (nt hg)) rfl rfl))<|.P rfl (nq rfl rfl)<|.nil ?_;refine J.cond rfl (fun h3=>?_) (fun h3=>?_)
       ·refine J.seq (J.af [.p] ?_);refine .ag rfl rfl<|.nil ?_;refine J.ret (jn (rr (jn (jn (rr (jn (?_)))))));exact dF rfl (Sub.bool (by exact alC hp Pv (hq.trans (adn (by have h9:=h3;rw[Kk]at h9;exact h9)))))
       ·refine J.skip ?_;refine J.af [.p,.p,.w] ?_;refine .mv rfl rfl<|.mv rfl rfl<|.W rfl (dJ ic (vD:=D.b) (k:=x2) (v:=true) underlying137 rfl rfl rfl rfl rfl rfl)<|.nil ?_;refine J.nil (cC ?_);refine J.af [.p,.p] ?_;refine .P rfl (bU rfl rfl (az zO))<|.mv rfl rfl<|.nil ?_;refine J.nil (dG ?_);exact⟨⟨aw++[x2],aI,by simp[bl],hq.trans (PB (by have h9:=h3;rw[Kk]at h9;exact h9))⟩,by simp,Le.mk rfl (.s rfl rfl (.s rfl rfl (.s rfl rfl (.s rfl rfl (.s rfl rfl (.s rfl rfl (.s rfl rfl (.cons rfl (Sub.int zS) rfl .nil)))))))) (.eq rfl (by(rw[←List.append_assoc];exact congrArg (fun z=>Ob.mp (aS D.str D.b z)) (Kl _ _).symm)) (yJ _ _) .nil)⟩
structure afL(a:Int)(r:List Int)where
 pre:List Int
 rest:List Int
 cur:Int
 hx:(a::r)=pre++rest
 hc:um (a::r)=rest.foldl min cur
theorem afK(a:Int)(r:List Int):Fc Tryz.prog 103 [.snap 1 false ((a::r).map fun n:Int=>[D.i n])] (.i (um (a::r))):=by
 refine Fc.mk' [2] func103 rfl ntmps103 rfl rfl rfl (fun t w=>results_tmp results103 t _ w) ?_;refine J.ej 0 rfl (fun hb=>?_);simp only[List.length_map,List.length_cons,aG]at hb;refine go [] ?_;refine aR zQ ?_;refine ix zD rfl ?_;refine J.loop (ι:=afL a r) (fun sx=>[(0,.snap 1 false ((a::r).map fun n:Int=>[D.i n])),(3,.i sx.cur),(4,.i sx.pre.length)]) (fun sx=>[]) (fun sx=>sx.rest.length) ⟨[a],r,a,rfl,rfl⟩ ?_ ?_
 ·exact Le.mk rfl (.s rfl rfl (.s rfl rfl (.s rfl rfl .nil))) .nil
 ·rintro⟨pre,rest,cur,hx,hc⟩;show J _ _ _ _ [(0,.snap 1 false ((a::r).map fun n:Int=>[D.i n])),(3,.i cur),(4,.i pre.length)] [];have hl:=congrArg List.length hx;simp only[List.length_append]at hl;rcases rest with _|⟨x,rest⟩
  ·skip;refine go [] ?_;refine aR (by simp at hl⊢;omega) ?_;refine go [] ?_;exact ah rfl (Sub.int (by exact hc.symm))
  ·simp only[List.length_cons]at hl;refine go [] ?_;refine a_ zQ ?_;refine ix zO (bn (fun n:Int=>[D.i n]) hx rfl) ?_;refine sd (az zO) ?_;exact nx ⟨pre++[x],rest,min cur x,by simp[hx],hc⟩ zS (Le.mk rfl (.s rfl rfl (.s rfl rfl (.cons rfl (Sub.int zS) rfl .nil))) .nil)
structure afE(a:Int)(r:List Int)where
 pre:List Int
 rest:List Int
 cur:Int
 hx:(a::r)=pre++rest
 hc:ui (a::r)=rest.foldl max cur
theorem afD(a:Int)(r:List Int):Fc Tryz.prog 104 [.snap 1 false ((a::r).map fun n:Int=>[D.i n])] (.i (ui (a::r))):=by
 refine Fc.mk' [2] func104 rfl ntmps104 rfl rfl rfl (fun t w=>results_tmp results104 t _ w) ?_;refine J.ej 0 rfl (fun hb=>?_);simp only[List.length_map,List.length_cons,aG]at hb;refine go [] ?_;refine aR zQ ?_;refine ix zD rfl ?_;refine J.loop (ι:=afE a r) (fun sx=>[(0,.snap 1 false ((a::r).map fun n:Int=>[D.i n])),(3,.i sx.cur),(4,.i sx.pre.length)]) (fun sx=>[]) (fun sx=>sx.rest.length) ⟨[a],r,a,rfl,rfl⟩ ?_ ?_
 ·exact Le.mk rfl (.s rfl rfl (.s rfl rfl (.s rfl rfl .nil))) .nil
 ·rintro⟨pre,rest,cur,hx,hc⟩;show J _ _ _ _ [(0,.snap 1 false ((a::r).map fun n:Int=>[D.i n])),(3,.i cur),(4,.i pre.length)] [];have hl:=congrArg List.length hx;simp only[List.length_append]at hl;rcases rest with _|⟨x,rest⟩
  ·skip;refine go [] ?_;refine aR (by simp at hl⊢;omega) ?_;refine go [] ?_;exact ah rfl (Sub.int (by exact hc.symm))
  ·simp only[List.length_cons]at hl;refine go [] ?_;refine a_ zQ ?_;refine ix zO (bn (fun n:Int=>[D.i n]) hx rfl) ?_;refine sd (az zO) ?_;exact nx ⟨pre++[x],rest,max cur x,by simp[hx],hc⟩ zS (Le.mk rfl (.s rfl rfl (.s rfl rfl (.cons rfl (Sub.int zS) rfl .nil))) .nil)
theorem adm(v:List aa)(x:aa):Fc Tryz.prog 102 [cw v,.aY [.str x]] (.b (v.any fun m=>decide (x=m))):=by
 refine Fc.mk' [3] func102 rfl ntmps102 rfl rfl rfl (fun t w=>results_tmp results102 t _ w) ?_;refine go [] ?_;refine oP (ai call15 rfl (acr _ _)) ?_;exact ah rfl (Sub.refl _)
theorem Xd{α β:Type}(F:α→β){l:List α}(h:decide (((l.map F).length:Int)=0)=false):∃a r,l.map F=a::r:=by
 cases l with
 |nil=>simp at h
 |cons a r=>exact⟨_,_,rfl⟩
theorem alW(gs:List (List aa))(x:aa):Fc Tryz.prog 48 [dT gs,.fn (.func 102) [] [.aY [.str x]]] (.i (fy gs x)):=ads gs _ [.aY [.str x]] rfl (fun v:List aa=>v.any fun m=>decide (x=m)) call102 (fun v _=>adm v x)
theorem RJ{gs:List (List aa)}{ns pre:List aa}(hx:ns=pre++[])(hp:pre.any (fun x=>decide (fy gs x<0))=false)(h:decide ((pre.length:Int)=0)=true):iz gs ns=(0,0):=by
 rw[List.append_nil]at hx;subst hx;exact RG hp (by simpa using h)
theorem RL{gs:List (List aa)}{ns pre:List aa}{a:Int}{r:List Int}(hx:ns=pre++[])(hp:pre.any (fun x=>decide (fy gs x<0))=false)(nL:pre.map (fy gs)=a::r)(h:decide (um (a::r)≠ui (a::r))=true):iz gs ns=(0,9):=by
 rw[List.append_nil]at hx;subst hx;exact agE hp (by rw[nL];simp;omega) (by rw[nL];exact h)
theorem RM{gs:List (List aa)}{ns pre:List aa}{a:Int}{r:List Int}(hx:ns=pre++[])(hp:pre.any (fun x=>decide (fy gs x<0))=false)(nL:pre.map (fy gs)=a::r)(h:decide (um (a::r)≠ui (a::r))=false):iz gs ns=(a,0):=by
 rw[List.append_nil]at hx;subst hx;rw[RH hp (by rw[nL];simp;omega) (by rw[nL];exact h),nL];rfl
structure agG(gs:List (List aa))(f:Fact)where
 pre:List aa
 rest:List aa
 hx:(cq f)=pre++rest
 hp:pre.any (fun x=>decide (fy gs x<0))=false
theorem RO(gs:List (List aa))(f:Fact)(hn:f.opts.length≤1000000)(hs:∀s∈eC f,de s):Fc Tryz.prog 56 [dT gs,.agg (aM f)] (.bf [.i (iz gs (cq f)).1,.i (iz gs (cq f)).2]):=by
 refine Fc.mk' [4,5] func56 rfl ntmps56 rfl rfl rfl (fun t w=>results_tmp2 results56 t _ w) ?_;refine go [5,12] ?_;refine oP (ai call25 rfl (Iv f hn hs)) ?_;refine J.loop (ι:=agG gs f) (fun sx=>[(0,dT gs),(6,.gs 1 sx.pre.length),(11,cw (cq f)),(12,.i (cq f).length),(13,.i sx.pre.length)]) (fun sx=>[(1,.arr 1 ((sx.pre.map (fy gs)).map fun n:Int=>[D.i n]))]) (fun sx=>sx.rest.length) ⟨[],_,rfl,rfl⟩ ?_ ?_
 ·exact(Le.mB 1 1).trans<|Le.mk rfl (.s rfl rfl (.cons rfl (Sub.z' _) rfl (.s rfl rfl (.cons rfl (Sub.int zS) rfl (.s rfl rfl .nil))))) (.arr rfl (by rfl) .nil)
 ·rintro⟨pre,rest,hx,hp⟩;show J _ _ _ _ [(0,dT gs),(6,.gs 1 pre.length),(11,cw (cq f)),(12,.i (cq f).length),(13,.i pre.length)] [(1,.arr 1 ((pre.map (fy gs)).map fun n:Int=>[D.i n]))];have hl:=congrArg List.length hx;simp only[List.length_append]at hl;rcases rest with _|⟨x,rest⟩
  ·skip;refine go [5,12] ?_;refine aR (by simp at hl⊢;omega) ?_;refine go [5,12] ?_;refine br (fun h1=>?_) (fun h1=>?_)
   ·exact gS rfl rfl (Sub.int (by rw[RJ hx hp h1])) (Sub.int (by rw[RJ hx hp h1]))
   ·obtain⟨a,r,nL⟩:=Xd (fy gs) (l:=pre) (by simpa using h1);have jv:r.length+1=pre.length:=by have:=congrArg List.length nL;simpa using this.symm
    rw[nL];refine J.bP (Le.freeze 6 1 rfl rfl zQ) ?_;refine J.af [.p,.p,.p,.p,.p] ?_;refine .mv rfl rfl<|.P rfl (ai call103 rfl (afK a r))<|.mv rfl rfl<|.P rfl (ai call104 rfl (afD a r))<|.P rfl (wO rfl rfl)<|.nil ?_;refine go [5,12] ?_;refine br (fun h2=>?_) (fun h2=>?_)
    ·exact gS rfl rfl (Sub.int (by rw[RL hx hp nL h2])) (Sub.int (by rw[RL hx hp nL h2]))
    ·refine ix zD rfl ?_;exact gS rfl rfl (Sub.int (by rw[RM hx hp nL h2])) (Sub.int (by rw[RM hx hp nL h2]))
  ·simp only[List.length_cons]at hl;have hil:=DN f;refine J.ej 11 rfl (fun hb=>?_);simp only[List.length_map,aG]at hb;refine go [5,12] ?_;refine a_ zQ ?_;refine ix zO (bn (fun s=>[D.str s]) hx rfl) ?_;refine J.bP (Le.gg 8 0 rfl rfl rfl rfl) ?_;refine go [12] ?_;refine oP (ai call48 rfl (alW gs x)) ?_;refine br (fun h3=>?_) (fun h3=>?_)
   ·exact gS rfl rfl (Sub.int (by rw[RF hx h3])) (Sub.int (by rw[RF hx h3]))
   ·refine oP (SE underlying25 sizeOf3 zeroValue3 rfl rfl rfl rfl rfl) ?_;refine oW (k_ 2 underlying25 underlying25 sizeOf3 typeInfo3 zeroValue3 rfl (bt:=8) rfl rfl rfl rfl zS rfl rfl zQ) ?_;refine go [5,12] ?_;refine sd (az zO) ?_;exact nx ⟨pre++[x],rest,by simp[hx],by rw[List.any_append,hp];simpa using h3⟩ zS ((Le.mk (ak:=[(2,_)]) rfl (show eO _ _ [(0,_),(6,_),(11,_),(12,_),(13,_)]from(.s rfl rfl (.s rfl rfl (.s rfl rfl (.s rfl rfl (.s rfl rfl .nil)))))) (.cons (i:=2) rfl rfl .nil)).trans<|(Le.pZ 6 2 1 rfl rfl zS rfl).trans<|Le.mk rfl (.s rfl rfl (.cons rfl (Sub.gs zS) rfl (.s rfl rfl (.s rfl rfl (.cons rfl (Sub.int zS) rfl .nil))))) (.arr rfl zS .nil))
theorem Sf{gs:List (List aa)}{pre:List Fact}{x:Fact}{i:Int}(h:decide ((iz gs (cq x)).1=i)=true):hY gs (pre++[x]) i=hY gs pre i++[x]:=by
 unfold hY nh;rw[List.filter_append,List.filter_cons,if_pos h];rfl
theorem Se{gs:List (List aa)}{pre:List Fact}{x:Fact}{i:Int}(h:decide ((iz gs (cq x)).1=i)=false):hY gs (pre++[x]) i=hY gs pre i:=by
 unfold hY nh;rw[List.filter_append,List.filter_cons,if_neg (by rw[h];simp)];simp
theorem Sg(gs:List (List aa))(v:List Fact)(i:Int):(hY gs v i).length≤v.length:=List.length_filter_le _ _
def DK(f:Fact):Prop:=f.opts.length≤1000000∧∀s∈eC f,de s
structure ahj(gs:List (List aa))(v:List Fact)(i:Int)where
 pre:List Fact
 rest:List Fact
 hx:v=pre++rest
theorem ahi(gs:List (List aa))(v:List Fact)(i:Int)(qJ:v.length≤1000)(hb:∀f∈v,DK f)(h0:∀f∈v,(iz gs (cq f)).2=0):Fc Tryz.prog 66 [dT gs,bz v,.i i] (.bf [bz (hY gs v i),.i 0]):=by
 refine Fc.mk' [6,7] func66 rfl ntmps66 rfl rfl rfl (fun t w=>results_tmp2 results66 t _ w) ?_;refine go [11] ?_;refine J.loop (ι:=ahj gs v i) (fun sx=>[(0,dT gs),(2,.i i),(8,.gs 1 (hY gs sx.pre i).length),(13,bz v),(14,.i v.length),(15,.i sx.pre.length)]) (fun sx=>[(1,.arr 21 ((hY gs sx.pre i).map aM))]) (fun sx=>sx.rest.length) ⟨[],_,rfl⟩ ?_ ?_
 ·exact(Le.mB 1 21).trans<|Le.mk rfl (.s rfl rfl (.s rfl rfl (.cons rfl (Sub.z' _) rfl (.s rfl rfl (.cons rfl (Sub.int zS) rfl (.s rfl rfl .nil)))))) (.arr rfl (by rfl) .nil)
 ·rintro⟨pre,rest,hx⟩;show J _ _ _ _ [(0,dT gs),(2,.i i),(8,.gs 1 (hY gs pre i).length),(13,bz v),(14,.i v.length),(15,.i pre.length)] [(1,.arr 21 ((hY gs pre i).map aM))];have hl:=congrArg List.length hx;simp only[List.length_append]at hl;rcases rest with _|⟨x,rest⟩
  ·obtain rfl:v=pre:=by simpa using hx
   refine go [11] ?_;refine aR zS ?_;refine go [11] ?_;refine J.bP (Le.freeze 8 1 rfl rfl zS) ?_;refine go [] ?_;exact gS rfl rfl (Sub.refl _) (Sub.refl _)
  ·simp only[List.length_cons]at hl;refine go [11] ?_;refine a_ zQ ?_;refine ix zO (bn aM hx rfl) ?_;refine oP (ai call56 rfl (RO gs x (hb x (by rw[hx];simp)).1 (hb x (by rw[hx];simp)).2)) ?_;refine aR (by simp[h0 x (by rw[hx];simp)]) ?_;refine br (fun h1=>?_) (fun h1=>?_)
   ·refine oP (ahH (ds:=aM x) underlying31 sizeOf39 rfl rfl zeroValue39 rfl rfl rfl rfl) ?_;refine oW (k_ 2 underlying31 underlying31 sizeOf39 typeInfo39 zeroValue39 rfl (bt:=312) rfl rfl rfl rfl zS rfl rfl (by have:=Sg gs pre i;simp;omega)) ?_;refine sd (az zO) ?_;exact nx ⟨pre++[x],rest,by simp[hx]⟩ zS ((Le.mk (ak:=[(2,_)]) rfl (show eO _ _ [(0,_),(2,_),(8,_),(13,_),(14,_),(15,_)]from(.s rfl rfl (.s rfl rfl (.s rfl rfl (.s rfl rfl (.s rfl rfl (.s rfl rfl .nil))))))) (.cons (i:=2) rfl rfl .nil)).trans<|(Le.pZ 8 2 1 rfl rfl zS rfl).trans<|Le.mk rfl (.s rfl rfl (.s rfl rfl (.cons rfl (Sub.gs (by rw[Sf h1];simp)) rfl (.s rfl rfl (.s rfl rfl (.cons rfl (Sub.int zS) rfl .nil)))))) (.arr rfl (by rw[Sf h1];simp) .nil))
   ·refine sd (az zO) ?_;exact nx ⟨pre++[x],rest,by simp[hx]⟩ zS (Le.mk rfl (.s rfl rfl (.s rfl rfl (.cons rfl (Sub.gs (by rw[Se h1])) rfl (.s rfl rfl (.s rfl rfl (.cons rfl (Sub.int zS) rfl .nil)))))) (.arr rfl (by rw[Se h1]) .nil))
theorem U4(gs:List (List aa))(v:List Fact)(i:Int)(qJ:v.length≤1000)(hb:∀f∈v,DK f)(h0:∀f∈v,(iz gs (cq f)).2=0)(hv:qb gs=true)(hw:l9 v=0)(hf:∀f∈v,kC f)(hi0:0≤i)(hi1:i<(gs.length:Int)):Fc Tryz.prog 26 [dT gs,bz v,.i i] (.bf [bz (hY gs v i),.i 0]):=by
 refine Fc.mk' [6,7] func26 rfl ntmps26 rfl rfl rfl (fun t w=>results_tmp2 results26 t _ w) ?_;refine go [] ?_;refine oP (ai call55 rfl (Ue _)) ?_;refine gP (fun hg=>ai call65 rfl (alP _ zA)) ?_;refine aR (by simp[hv,hw]) ?_;refine aR zQ ?_;refine oP (ai call66 rfl (ahi gs v i qJ hb h0)) ?_;exact gS rfl rfl (Sub.refl _) (Sub.refl _)
theorem U3(gs:List (List aa))(f:Fact)(hb:DK f)(hv:qb gs=true)(hw:eP f=0)(hf:kC f):Fc Tryz.prog 22 [dT gs,.agg (aM f)] (.bf [.i (iz gs (cq f)).1,.i (iz gs (cq f)).2]):=by
 refine Fc.mk' [4,5] func22 rfl ntmps22 rfl rfl rfl (fun t w=>results_tmp2 results22 t _ w) ?_;refine go [] ?_;refine oP (ai call55 rfl (Ue _)) ?_;refine gP (fun hg=>ai call44 rfl (F1 f hf)) ?_;refine aR (by simp[hv,hw]) ?_;refine oP (ai call56 rfl (RO gs f hb.1 hb.2)) ?_;exact gS rfl rfl (Sub.refl _) (Sub.refl _)
theorem yj{f:aP}(h:nX f=false):j2 f:=by
 simp only[nX,Bool.or_eq_false_iff]at h;have h1:=tI h.1;have h2:=tI h.2;unfold j2;omega
theorem aax{f:Fact}(h:tH f=false):qt f:=by
 simp only[tH,Bool.or_eq_false_iff]at h;obtain⟨g1,g2,g3,g4⟩:=h;simp only[Hb,Bool.or_eq_false_iff,decide_eq_false_iff_not,Nat.not_lt]at g1;obtain⟨⟨⟨⟨⟨⟨⟨⟨⟨⟨a1,a2⟩,a3⟩,a4⟩,a5⟩,a6⟩,a7⟩,a8⟩,a9⟩,FB⟩,FC⟩:=g1;refine⟨fun p hp=>?_,by omega,by omega,by omega,yj a9,yj FB,yj FC,fun o hx=>?_⟩
 ·have:=xe g3 hp;simp only[z_,Bool.or_eq_false_iff,decide_eq_false_iff_not]at this;have h2:=this.1;omega
 ·have:=xe g4 hx;simp only[xL,Bool.or_eq_false_iff]at this;exact⟨yj this.1.1.2,yj this.1.2,yj this.2⟩
theorem KE{s:Setup}{v:List Fact}(h:(xM s||[v].any rU)=false):∀f∈v,qt f:=by
 simp only[Bool.or_eq_false_iff,List.any_cons,List.any_nil]at h;exact fun f hf=>aax ((KN h.2.1).2 f hf)
theorem TJ{s:Setup}{v:List Fact}(h:((xM s||[v].any rU)||decide (l9 v≠0))=false):wC s v∧v.length≤8∧ta v∧(∀f∈v,qt f)∧(∀f∈v,DK f):=by
 rw[Bool.or_eq_false_iff]at h;have ht:=KE h.1;have h1:=h.1;simp only[Bool.or_eq_false_iff,List.any_cons,List.any_nil]at h1;have hs:=KN h1.2.1;exact⟨Ju h1.1 h1.2.1,hs.1,(Cs v).1 (by simpa using h.2),ht,fun f hf=>⟨by have:=(CW (hs.2 f hf)).2.1;omega,(CW (hs.2 f hf)).2.2⟩⟩
theorem WX{l:List aa}(hn:l.Nodup)(x:aa):0≤oB l x∧oB l x≤1:=by
 by_cases h:x∈l
 ·rw[F5 hn h];omega
 ·rw[F6 h];omega
theorem WW{gs pre rest:List (List aa)}{x aw aI:List aa}{y:aa}(hn:gs.flatten.Nodup)(hx:gs=pre++x::rest)(bl:x=aw++y::aI):0≤cN 0 (j5 (pre.flatten++aw)) y∧cN 0 (j5 (pre.flatten++aw)) y≤1:=by
 rw[F4];refine WX ?_ y;have e:gs.flatten=(pre.flatten++aw)++(y::aI++rest.flatten):=by rw[hx,bl];simp
 rw[e]at hn;exact(List.nodup_append.1 hn).1
theorem WU(gs:List (List aa))(v:List Fact)(n:Nat):0≤mK gs v n∧mK gs v n≤(v.length:Int):=by
 unfold mK;have:=List.length_filter_le (fun f=>decide (nh gs f<(n:Int))) v;omega
theorem aa4{v p q:List Fact}{x:Fact}(h:ta v)(hx:v=p++x::q):(v.map aM)[(max (ja (fun y:Fact=>decide (y.key=x.key)) v) 0).toNat]?=some (aM x):=by
 rw[Uq h hx,show(max (p.length:Int) 0).toNat=p.length by omega,hx];simp
theorem GV{v p q:List Fact}{x:Fact}(h:ta v)(hx:v=p++x::q):ja (fun y:Fact=>decide (y.key=x.key)) v=(p.length:Int)∧v.any (fun y:Fact=>decide (y.key=x.key))=true∧p.length<v.length:=
 ⟨Uq h hx,by rw[hx];simp,by rw[hx];simp⟩
theorem afF{v:List Fact}{x:Fact}(h:x∈v):∃p q,v=p++x::q:=List.append_of_mem h
theorem re(f:Nat→Bool)(m:List (aa×Int)):Ob.okB f (.mp (aS D.str D.i m))=true:=RT f D.i (fun _=>rfl) m
theorem aeo(s:Setup)(v:List Fact)(hw:lX s v=true):Fc Tryz.prog 5 [.agg (iR s),bz v] (.b true):=by
 refine Fc.mk' [4] func5 rfl ntmps5 rfl rfl rfl (fun t w=>results_tmp results5 t _ w) ?_;refine go [1] ?_;refine J.bP (Le.gg 2 0 rfl rfl rfl rfl) ?_;refine go [] ?_;refine oP (bI (n:=1) (rows:=[[bz v]]) underlying78 sizeOf31 rfl rfl rfl zeroValue31 rfl rfl rfl rfl rfl rfl rfl) ?_;refine oP (ai call7 rfl (N2 s [v]).sub) ?_;refine gP (fun hg=>ai call24 rfl (KL v (KE (s:=s) (by simpa[lW]using hg)))) ?_;refine br (fun h1=>?_) (fun h1=>?_)
 ·refine oP (ai call9 rfl Cp) ?_;exact ah rfl (Sub.refl _)
 ·obtain⟨ho,qJ,r5,OL,lD⟩:=TJ h1;have qL:l9 v=0:=(Cs v).2 r5;refine oP (ai call10 rfl (Vy ho hw)) ?_;refine a_ (by rfl) ?_;refine gP (fun hg=>ai call9 rfl Cp) ?_;exact ah rfl (Sub.refl _)
structure aeq(s:Setup)(v:List Fact)where
 pre:List (List aa)
 rest:List (List aa)
 hx:(bD s v)=pre++rest
structure aes(s:Setup)(v:List Fact)where
 pre:List bJ
 rest:List bJ
 hx:s.insts=pre++rest
structure aet(s:Setup)(v:List Fact)where
 pre:List Fact
 rest:List Fact
 hx:v=pre++rest
structure aev(s:Setup)(v:List Fact)where
 pre:List (List aa)
 rest:List (List aa)
 hx:(bD s v)=pre++rest
structure aew(s:Setup)(v:List Fact)(pre:List (List aa))where
 aw:List Fact
 aI:List Fact
 bl:(hY (bD s v) v pre.length)=aw++aI
structure aeu(s:Setup)(v:List Fact)(pre:List Fact)(x:Fact)where
 aw:List aa
 aI:List aa
 bl:(cq x)=aw++aI
structure aer(s:Setup)(v:List Fact)(pre:List (List aa))(x:List aa)where
 aw:List aa
 aI:List aa
 bl:x=aw++aI
theorem aep(s:Setup)(v:List Fact)(hw:lX s v=false):Fc Tryz.prog 5 [.agg (iR s),bz v] (.b true):=by
 refine Fc.mk' [4] func5 rfl ntmps5 rfl rfl rfl (fun t w=>results_tmp results5 t _ w) ?_;refine go [1] ?_;refine J.bP (Le.gg 2 0 rfl rfl rfl rfl) ?_;refine go [] ?_;refine oP (bI (n:=1) (rows:=[[bz v]]) underlying78 sizeOf31 rfl rfl rfl zeroValue31 rfl rfl rfl rfl rfl rfl rfl) ?_;refine oP (ai call7 rfl (N2 s [v]).sub) ?_;refine gP (fun hg=>ai call24 rfl (KL v (KE (s:=s) (by simpa[lW]using hg)))) ?_;refine br (fun h1=>?_) (fun h1=>?_)
 ·refine oP (ai call9 rfl Cp) ?_;exact ah rfl (Sub.refl _)
 ·obtain⟨ho,qJ,r5,OL,lD⟩:=TJ h1;have qL:l9 v=0:=(Cs v).2 r5;have ef:=Hi s v;have Ps:=acb hw;have O9:∀f∈v,(iz (bD s v) (cq f)).2=0:=fun f hf=>(Jq (s:=s) f hf).2.2;refine oP (ai call10 rfl (G' ho hw)) ?_;refine aR (by rfl) ?_;refine oW (kn 1 D.str (D.i) rfl) ?_;refine J.loop (ι:=aeq s v) (fun sx=>[(1,bz v),(5,dT (bD s v)),(2,.aY (iR s)),(7,.bu 1),(53,dT (bD s v)),(54,.i (bD s v).length),(55,.i sx.pre.length)]) (fun sx=>[(1,.mp (aS D.str D.i (j5 sx.pre.flatten)))]) (fun sx=>sx.rest.length) ⟨[],_,rfl⟩ ?_ ?_
  ·exact Le.mk rfl (.s rfl rfl (.s rfl rfl (.s rfl rfl (.s rfl rfl (.s rfl rfl (.cons rfl (Sub.int zS) rfl (.s rfl rfl .nil))))))) (.eq rfl (by rfl) (re _ _) .nil)
  ·rintro⟨pre,rest,hx⟩;show J _ _ _ _ [(1,bz v),(5,dT (bD s v)),(2,.aY (iR s)),(7,.bu 1),(53,dT (bD s v)),(54,.i (bD s v).length),(55,.i pre.length)] [(1,.mp (aS D.str D.i (j5 pre.flatten)))];have hl:=congrArg List.length hx;simp only[List.length_append]at hl;refine J.ej 53 rfl (fun acx=>?_);simp only[h_,List.length_map,aG]at acx;rcases rest with _|⟨x,rest⟩
   ·obtain rfl:pre=bD s v:=by simpa using hx.symm
    refine go [1] ?_;refine aR zS ?_;refine go [1] ?_;refine J.loop (ι:=aes s v) (fun sx=>[(1,bz v),(5,dT (bD s v)),(7,.bu 1),(72,j0 s.insts),(73,.i s.insts.length),(74,.i sx.pre.length)]) (fun sx=>[(1,.mp (aS D.str D.i (j5 (bD s v).flatten)))]) (fun sx=>sx.rest.length) ⟨[],_,rfl⟩ ?_ ?_
    ·exact Le.mk rfl (.s rfl rfl (.s rfl rfl (.s rfl rfl (.s rfl rfl (.cons rfl (Sub.int zS) rfl (.s rfl rfl .nil)))))) (.eq rfl (by rfl) (re _ _) .nil)
    ·rintro⟨pre,rest,hx⟩;show J _ _ _ _ [(1,bz v),(5,dT (bD s v)),(7,.bu 1),(72,j0 s.insts),(73,.i s.insts.length),(74,.i pre.length)] [(1,.mp (aS D.str D.i (j5 (bD s v).flatten)))];have hl:=congrArg List.length hx;simp only[List.length_append]at hl;refine J.ej 72 rfl (fun acz=>?_);simp only[h_,List.length_map,aG]at acz;rcases rest with _|⟨x,rest⟩
     ·skip;refine go [1] ?_;refine aR (by simp at hl⊢;omega) ?_;refine go [1] ?_;refine J.loop (ι:=aet s v) (fun sx=>[(1,bz v),(5,dT (bD s v)),(7,.bu 1),(84,bz v),(85,.i v.length),(86,.i sx.pre.length)]) (fun sx=>[(1,.mp (aS D.str D.i (j5 (bD s v).flatten)))]) (fun sx=>sx.rest.length) ⟨[],_,rfl⟩ ?_ ?_
      ·exact Le.mk rfl (.s rfl rfl (.s rfl rfl (.s rfl rfl (.s rfl rfl (.cons rfl (Sub.int zS) rfl (.s rfl rfl .nil)))))) (.eq rfl (by rfl) (re _ _) .nil)
      ·rintro⟨pre,rest,hx⟩;show J _ _ _ _ [(1,bz v),(5,dT (bD s v)),(7,.bu 1),(84,bz v),(85,.i v.length),(86,.i pre.length)] [(1,.mp (aS D.str D.i (j5 (bD s v).flatten)))];have hl:=congrArg List.length hx;simp only[List.length_append]at hl;rcases rest with _|⟨x,rest⟩
       ·skip;refine go [1] ?_;refine aR (by simp at hl⊢;omega) ?_;refine go [1] ?_;refine J.loop (ι:=aev s v) (fun sx=>[(1,bz v),(5,dT (bD s v)),(18,.i (mK (bD s v) v sx.pre.length)),(103,dT (bD s v)),(104,.i (bD s v).length),(105,.i sx.pre.length)]) (fun sx=>[]) (fun sx=>sx.rest.length) ⟨[],_,rfl⟩ ?_ ?_
        ·exact Le.mk rfl (.s rfl rfl (.s rfl rfl (.cons rfl (Sub.int (by exact(WV (fun f hf=>(Jq (s:=s) f hf).1)).symm)) rfl (.s rfl rfl (.cons rfl (Sub.int zS) rfl (.s rfl rfl .nil)))))) .nil
        ·rintro⟨pre,rest,hx⟩;show J _ _ _ _ [(1,bz v),(5,dT (bD s v)),(18,.i (mK (bD s v) v pre.length)),(103,dT (bD s v)),(104,.i (bD s v).length),(105,.i pre.length)] [];have hl:=congrArg List.length hx;simp only[List.length_append]at hl;refine J.ej 103 rfl (fun acw=>?_);simp only[h_,List.length_map,aG]at acw;rcases rest with _|⟨x,rest⟩
         ·obtain rfl:pre=bD s v:=by simpa using hx.symm
          refine go [1] ?_;refine aR zS ?_;refine go [1] ?_;refine gP (fun hg=>ai call9 rfl Cp) ?_;exact ah rfl (Sub.bool (by(rw[WT (fun f hf=>(Jq (s:=s) f hf).2.1)];simp)))
         ·simp only[List.length_cons]at hl;have hlg:(bD s v).length=pre.length+(rest.length+1):=by have h9:=congrArg List.length hx;simpa using h9
          have hcb:=WU (bD s v) v pre.length;have Az:=Sg (bD s v) v pre.length;refine go [1] ?_;refine a_ zQ ?_;refine oP (ai call26 rfl (U4 (bD s v) v (pre.length:Int) zO lD O9 Ps qL ho.facts zO zO)) ?_;refine gP (fun hg=>ai call24 rfl (KL (hY (bD s v) v pre.length) (fun f hf=>OL f (List.mem_filter.1 hf).1))) ?_;refine aR (by simp[ahl r5]) ?_;refine sd (eJ zQ zQ) ?_;refine J.loop (ι:=aew s v pre) (fun sx=>[(1,bz v),(5,dT (bD s v)),(18,.i (mK (bD s v) v pre.length+((hY (bD s v) v pre.length).length:Int))),(19,.i pre.length),(103,dT (bD s v)),(104,.i (bD s v).length),(105,.i pre.length),(126,bz (hY (bD s v) v pre.length)),(127,.i (hY (bD s v) v pre.length).length),(128,.i sx.aw.length)]) (fun sx=>[]) (fun sx=>sx.aI.length) ⟨[],_,rfl⟩ ?_ ?_
          ·exact Le.mk rfl (.s rfl rfl (.s rfl rfl (.cons rfl (Sub.int zS) rfl (.s rfl rfl (.s rfl rfl (.s rfl rfl (.s rfl rfl (.s rfl rfl (.cons rfl (Sub.int zS) rfl (.s rfl rfl .nil)))))))))) .nil
          ·rintro⟨aw,aI,bl⟩;show J _ _ _ _ [(1,bz v),(5,dT (bD s v)),(18,.i (mK (bD s v) v pre.length+((hY (bD s v) v pre.length).length:Int))),(19,.i pre.length),(103,dT (bD s v)),(104,.i (bD s v).length),(105,.i pre.length),(126,bz (hY (bD s v) v pre.length)),(127,.i (hY (bD s v) v pre.length).length),(128,.i aw.length)] [];have bL:=congrArg List.length bl;simp only[List.length_append]at bL;rcases aI with _|⟨x2,aI⟩
           ·skip;refine go [1] ?_;refine aR (by simp at bL⊢;omega) ?_;refine J.nil (cC ?_);refine go [1] ?_;refine sd (az zO) ?_;exact nx ⟨pre++[x],rest,by simp[hx]⟩ zS (Le.mk rfl (.s rfl rfl (.s rfl rfl (.cons rfl (Sub.int (by(rw[List.length_append];exact(L2 _ _ _).symm))) rfl (.s rfl rfl (.s rfl rfl (.cons rfl (Sub.int zS) rfl .nil)))))) .nil)
           ·simp only[List.length_cons]at bL;obtain⟨vT,e2⟩:=ahk bl;have e1:=O9 x2 vT;unfold nh at e2;obtain⟨p,q,pF⟩:=afF vT;refine go [1] ?_;refine a_ zQ ?_;refine ix zO (bn aM bl rfl) ?_;refine oP (ai call22 rfl (U3 (bD s v) x2 (lD x2 vT) Ps (r5.each x2 vT).1 (ho.facts x2 vT))) ?_;refine oP (ai call27 rfl (aa1 v x2.key)) ?_;refine wb (fun hg=>And.intro zO (aa4 r5 pF)) ?_;refine gP (fun hg=>ai call28 rfl (aiU _)) ?_;refine ord ?_;refine aR (by rw[e1,e2,(GV r5 pF).2.1,(GV r5 pF).1];have h9:=(GV r5 pF).2.2;simp;omega) ?_;refine sd (az zO) ?_;exact nx ⟨aw++[x2],aI,by simp[bl]⟩ zS (Le.mk rfl (.s rfl rfl (.s rfl rfl (.s rfl rfl (.s rfl rfl (.s rfl rfl (.s rfl rfl (.s rfl rfl (.s rfl rfl (.s rfl rfl (.cons rfl (Sub.int zS) rfl .nil)))))))))) .nil)
       ·simp only[List.length_cons]at hl;refine go [1] ?_;refine a_ zQ ?_;refine ix zO (bn aM hx rfl) ?_;refine oP (ai call25 rfl (Iv x (lD x (by rw[hx];simp)).1 (lD x (by rw[hx];simp)).2)) ?_;refine J.loop (ι:=aeu s v pre x) (fun sx=>[(1,bz v),(5,dT (bD s v)),(7,.bu 1),(84,bz v),(85,.i v.length),(86,.i pre.length),(91,cw (cq x)),(92,.i (cq x).length),(93,.i sx.aw.length)]) (fun sx=>[(1,.mp (aS D.str D.i (j5 (bD s v).flatten)))]) (fun sx=>sx.aI.length) ⟨[],_,rfl⟩ ?_ ?_
        ·exact Le.mk rfl (.s rfl rfl (.s rfl rfl (.s rfl rfl (.s rfl rfl (.s rfl rfl (.s rfl rfl (.s rfl rfl (.cons rfl (Sub.int zS) rfl (.s rfl rfl .nil))))))))) (.eq rfl (by rfl) (re _ _) .nil)
        ·rintro⟨aw,aI,bl⟩;show J _ _ _ _ [(1,bz v),(5,dT (bD s v)),(7,.bu 1),(84,bz v),(85,.i v.length),(86,.i pre.length),(91,cw (cq x)),(92,.i (cq x).length),(93,.i aw.length)] [(1,.mp (aS D.str D.i (j5 (bD s v).flatten)))];have bL:=congrArg List.length bl;simp only[List.length_append]at bL;refine J.ej 91 rfl (fun acA=>?_);simp only[h_,List.length_map,aG]at acA;rcases aI with _|⟨x2,aI⟩
         ·skip;refine go [1] ?_;refine aR (by simp at bL⊢;omega) ?_;refine J.nil (cC ?_);refine go [1] ?_;refine sd (az zO) ?_;exact nx ⟨pre++[x],rest,by simp[hx]⟩ zS (Le.mk rfl (.s rfl rfl (.s rfl rfl (.s rfl rfl (.s rfl rfl (.s rfl rfl (.cons rfl (Sub.int zS) rfl .nil)))))) (.eq rfl (by rfl) (re _ _) .nil))
         ·simp only[List.length_cons]at bL;refine go [1] ?_;refine a_ zQ ?_;refine ix zO (bn (fun s=>[D.str s]) bl rfl) ?_;refine oR (uB ic (vD:=D.i) (k:=x2) (d:=0) underlying63 zeroValue3 KO rfl rfl rfl rfl) ?_;refine aR (by rw[F4,L' ⟨cq x,Mz (by rw[hx];simp),by rw[bl];simp⟩];rfl) ?_;refine sd (az zO) ?_;exact nx ⟨aw++[x2],aI,by simp[bl]⟩ zS (Le.mk rfl (.s rfl rfl (.s rfl rfl (.s rfl rfl (.s rfl rfl (.s rfl rfl (.s rfl rfl (.s rfl rfl (.s rfl rfl (.cons rfl (Sub.int zS) rfl .nil))))))))) (.eq rfl (by rfl) (re _ _) .nil))
     ·simp only[List.length_cons]at hl;refine go [1] ?_;refine a_ zQ ?_;refine ix zO (bn iD hx rfl) ?_;refine oR (uB ic (vD:=D.i) (k:=x.id) (d:=0) underlying63 zeroValue3 KO rfl rfl rfl rfl) ?_;refine aR (by rw[F4,L' (af6 (by rw[hx];simp))];rfl) ?_;refine sd (az zO) ?_;exact nx ⟨pre++[x],rest,by simp[hx]⟩ zS (Le.mk rfl (.s rfl rfl (.s rfl rfl (.s rfl rfl (.s rfl rfl (.s rfl rfl (.cons rfl (Sub.int zS) rfl .nil)))))) (.eq rfl (by rfl) (re _ _) .nil))
   ·simp only[List.length_cons]at hl;have hlg:(bD s v).length=pre.length+(rest.length+1):=by have h9:=congrArg List.length hx;simpa using h9
    refine go [1] ?_;refine a_ zQ ?_;refine ix zO (bn (fun v:List aa=>[cw v]) hx rfl) ?_;refine J.loop (ι:=aer s v pre x) (fun sx=>[(1,bz v),(5,dT (bD s v)),(2,.aY (iR s)),(7,.bu 1),(53,dT (bD s v)),(54,.i (bD s v).length),(55,.i pre.length),(59,cw x),(60,.i x.length),(61,.i sx.aw.length)]) (fun sx=>[(1,.mp (aS D.str D.i (j5 (pre.flatten++sx.aw))))]) (fun sx=>sx.aI.length) ⟨[],x,rfl⟩ ?_ ?_
    ·exact Le.mk rfl (.s rfl rfl (.s rfl rfl (.s rfl rfl (.s rfl rfl (.s rfl rfl (.s rfl rfl (.s rfl rfl (.s rfl rfl (.cons rfl (Sub.int zS) rfl (.s rfl rfl .nil)))))))))) (.eq rfl zS (re _ _) .nil)
    ·rintro⟨aw,aI,bl⟩;show J _ _ _ _ [(1,bz v),(5,dT (bD s v)),(2,.aY (iR s)),(7,.bu 1),(53,dT (bD s v)),(54,.i (bD s v).length),(55,.i pre.length),(59,cw x),(60,.i x.length),(61,.i aw.length)] [(1,.mp (aS D.str D.i (j5 (pre.flatten++aw))))];have bL:=congrArg List.length bl;simp only[List.length_append]at bL;refine J.ej 59 rfl (fun acy=>?_);simp only[h_,List.length_map,aG]at acy;rcases aI with _|⟨x2,aI⟩
     ·skip;refine go [1] ?_;refine aR (by simp at bL⊢;omega) ?_;refine J.nil (cC ?_);refine go [1] ?_;refine sd (az zO) ?_;exact nx ⟨pre++[x],rest,by simp[hx]⟩ zS (Le.mk rfl (.s rfl rfl (.s rfl rfl (.s rfl rfl (.s rfl rfl (.s rfl rfl (.s rfl rfl (.cons rfl (Sub.int zS) rfl .nil))))))) (.eq rfl (by(have e9:x=aw:=(by simpa using bl);subst e9;simp)) (re _ _) .nil))
     ·simp only[List.length_cons]at bL;have hc9:=WW ef hx bl;refine go [1] ?_;refine a_ zQ ?_;refine ix zO (bn (fun s=>[D.str s]) bl rfl) ?_;refine oR (uB ic (vD:=D.i) (k:=x2) (d:=0) underlying63 zeroValue3 KO rfl rfl rfl rfl) ?_;refine sd (az zO) ?_;refine oW (dJ ic (vD:=D.i) (k:=x2) (v:=(cN 0 (j5 (pre.flatten++aw)) x2+1)) underlying63 rfl rfl rfl rfl rfl rfl) ?_;refine sd (az zO) ?_;exact nx ⟨aw++[x2],aI,by simp[bl]⟩ zS (Le.mk rfl (.s rfl rfl (.s rfl rfl (.s rfl rfl (.s rfl rfl (.s rfl rfl (.s rfl rfl (.s rfl rfl (.s rfl rfl (.s rfl rfl (.cons rfl (Sub.int zS) rfl .nil)))))))))) (.eq rfl (by(rw[←List.append_assoc];exact congrArg (fun z=>Ob.mp (aS D.str D.i z)) (L3 _ _).symm)) (re _ _) .nil))
theorem aex(s:Setup)(v:List Fact):Fc Tryz.prog 5 [.agg (iR s),bz v] (.b true):=by
 by_cases h:lX s v=true
 ·exact aeo s v h
 ·exact aep s v (by simpa using h)
end Go.T
namespace Go.T
open Go
def sB:Nat→Prop:=fun _=>False
structure bx(P:Program)(t:TypeId)(α:Type)(enc:α→List D):Prop where
 out:∀{H:Type}{eH:TypeId×Value→H}{w:World}{dx:Nat}{cs:List Value}{x:DataW H×List MemPlace},DataW.trod eH P w 0 (fun _=>true) true dx t cs=some x→(∀n∈x.1.weights P t,n≤reachBytes)→
  ∃a:α,(∀u∈cs,u.oneCell'=true)∧Vs w sB di (enc a) cs
theorem bx.int{P:Program}{t:TypeId}(ht:P.underlying t=some (.int .i64)):bx P t Int (fun n=>[.i n]):=⟨fun h _=>by
 obtain⟨n,rfl,_,_⟩:=DataW.trod_int ht h;exact⟨n,by simp[Value.oneCell'],by simp[Vs,V]⟩⟩
theorem bx.bool{P:Program}{t:TypeId}(ht:P.underlying t=some .bool):bx P t Bool (fun n=>[.b n]):=⟨fun h _=>by
 obtain⟨n,rfl,_⟩:=DataW.trod_bool ht h;exact⟨n,by simp[Value.oneCell'],by simp[Vs,V]⟩⟩
theorem bx.str{P:Program}{t:TypeId}(ht:P.underlying t=some .string):bx P t aa (fun n=>[.str n]):=⟨fun h hw=>by
 obtain⟨s,rfl,rfl,_⟩:=DataW.trod_string ht h;have:=hw s.data.toList.length (by simp[DataW.weights]);refine⟨s.data.toList,by simp[Value.oneCell'],?_⟩;simp only[Vs,V];refine⟨_,_,rfl,⟨by simp,?_⟩,rfl⟩;have:=reachBytes_lt;unfold aG;omega⟩
structure w_(P:Program)(fs:List Field)(off:Nat)(α:Type)(enc:α→List D):Prop where
 out:∀{H:Type}{eH:TypeId×Value→H}{w:World}{dx:Nat}{cs:List Value}{xs:List (DataW H×List MemPlace)},xs.length=fs.length→
  (∀(i:Nat)(f:Field),fs[i]?=some f→DataW.trod eH P w 0 (fun _=>true) true dx f.type ((cs.drop f.offset).take (P.cellsOf f.type))=xs[i]?)→(∀n∈DataW.weightsEach P (fs.map (·.type)) (xs.map (·.1)),n≤reachBytes)→
  ∃a:α,(∀u∈(cs.drop off).take ((fs.map fun f=>P.cellsOf f.type).sum),u.oneCell'=true)∧Vs w sB di (enc a) ((cs.drop off).take ((fs.map fun f=>P.cellsOf f.type).sum))
theorem w_.nil{P:Program}{off:Nat}:w_ P [] off Unit (fun _=>[]):=⟨fun _ _ _=>⟨(),by simp,by simp[Vs]⟩⟩
theorem Vs.app{w:World}{O:Nat→Prop}{ρ:aA}:∀{ds es:List D}{us vs:List Value},Vs w O ρ ds us→Vs w O ρ es vs→Vs w O ρ (ds++es) (us++vs)
 |[],es,us,vs,h,h'=>by simp only[Vs]at h;subst h;simpa using h'
 |d::ds,es,us,vs,h,h'=>by
  simp only[Vs]at h;obtain⟨u,us,rfl,h1,h2⟩:=h;simp only[List.cons_append,Vs];exact⟨_,_,rfl,h1,Vs.app h2 h'⟩
theorem w_.cons{P:Program}{f:Field}{fs:List Field}{off n:Nat}{α β:Type}{enc:α→List D}{enc':β→List D}(h1:bx P f.type α enc)(ho:f.offset=off)(hn:P.cellsOf f.type=n)(h2:w_ P fs (off+n) β enc'):w_ P (f::fs) off (α×β) (fun x=>enc x.1++enc' x.2):=⟨fun{H eH w dx cs xs} hl hr hw=>by
 match xs,hl with
 |x::xs,hl=>
  have hx:=hr 0 f rfl;simp only[List.map_cons,DataW.weightsEach,List.mem_append]at hw;obtain⟨a,ha,Im⟩:=h1.out (by simpa using hx) (fun n hn=>hw n (.inl hn));obtain⟨b,hb,Pr⟩:=h2.out (xs:=xs) (by simpa using hl) (fun i g hg=>by simpa using hr (i+1) g (by simpa using hg)) (fun n hn=>hw n (.inr hn));rw[ho,hn]at ha Im;have e:(cs.drop off).take (((f::fs).map fun f=>P.cellsOf f.type).sum)=(cs.drop off).take n++(cs.drop (off+n)).take ((fs.map fun f=>P.cellsOf f.type).sum):=by
   rw[List.map_cons,List.sum_cons,hn,List.take_add,List.drop_drop]
  rw[e];exact⟨(a,b),fun u hu=>(List.mem_append.1 hu).elim (ha u) (hb u),Vs.app Im Pr⟩⟩
theorem bx.struct{P:Program}{t:TypeId}{fs:List Field}{α:Type}{enc:α→List D}(ht:P.underlying t=some (.struct fs.toArray))(hc:P.cellsOf t=(fs.map fun f=>P.cellsOf f.type).sum)(h:w_ P fs 0 α enc):bx P t α enc:=⟨fun{H eH w dx cs x} hr hw=>by
 obtain⟨xs,n,_,rfl,hl,hlen,hf⟩:=DataW.trod_struct ht hr;simp only[DataW.weights,ht,List.map_map]at hw;obtain⟨a,h1,h2⟩:=h.out (by simpa using hlen) (fun i f hi=>hf i f (by simpa using hi)) (fun n hn=>hw n (by simpa[Function.comp_def]using hn));have e:(cs.drop 0).take ((fs.map fun f=>P.cellsOf f.type).sum)=cs:=by
  rw[List.drop_zero,←hc,←hl,List.take_length]
 rw[e]at h1 h2;exact⟨a,h1,h2⟩⟩
theorem bx.map{P:Program}{t:TypeId}{α β:Type}{enc:α→List D}{enc':β→List D}(h:bx P t α enc)(f:α→β)(he:∀a,enc' (f a)=enc a):bx P t β enc':=⟨fun hr hw=>by
 obtain⟨a,h1,h2⟩:=h.out hr hw;exact⟨f a,h1,by rw[he];exact h2⟩⟩
theorem Vs.T4{w:World}{O:Nat→Prop}{b:Nat}:∀{ds:List D}{cs:List Value}{off:Nat},Vs w O di ds cs→(∀u∈cs,u.oneCell'=true)→(∀j u,cs[j]?=some u→w.cell? ⟨b,off+j,none⟩=some u)→Vc w O b off ds
 |[],_,_,_,_,_=>by simp[Vc]
 |d::ds,cs,off,h,h1,hc=>by
  simp only[Vs]at h;obtain⟨u,us,rfl,h2,h3⟩:=h;simp only[Vc];refine⟨⟨u,⟨by simpa using hc 0 u rfl,h1 u List.mem_cons_self⟩,h2⟩,Vs.T4 h3 (fun v hv=>h1 v (List.mem_cons_of_mem _ hv)) (fun j v hj=>?_)⟩;have:=hc (j+1) v (by simpa using hj);rwa[show off+(j+1)=off+1+j by omega]at this
theorem Wh{w:World}{a:Addr}{n:Nat}{cs:List Value}(h:w.cells? 0 a n=some cs):cs.length=n∧∀j,j<n→w.cell? (a.add j)=cs[j]?:=by
 unfold World.cells? at h;rw[if_pos (Nat.zero_le _)]at h;exact⟨by simpa using mapM_some_length h,fun j hj=>by simpa using mapM_some_get h j j (by simp[hj])⟩
theorem aju{w:World}{a:Addr}{u:Value}(h:w.cell? a=some u):a.spot=none:=by
 cases x5:a.spot with
 |none=>rfl
 |some s=>
  simp only[World.cell?]at h;split at h
  ·simp[x5]at h
  ·cases h
theorem K7{w:World}{b sz:Nat}{α:Type}{enc:α→List D}:∀{l:List α}{off:Nat},(∀i a,l[i]?=some a→(enc a).length=sz∧Vc w sB b (off+i*sz) (enc a))→Vr w sB b off sz (l.map enc)
 |[],_,_=>by simp[Vr]
 |a::l,off,h=>by
  simp only[List.map_cons,Vr];refine⟨by simpa using h 0 a rfl,K7 fun i a' hi=>?_⟩;have:=h (i+1) a' (by simpa using hi);rwa[show off+(i+1)*sz=off+sz+i*sz by rw[Nat.add_mul];omega]at this
theorem M3{α:Type}{p:Nat→α→Prop}:∀(n:Nat),(∀i,i<n→∃a,p i a)→∃l:List α,l.length=n∧∀i a,l[i]?=some a→p i a
 |0,_=>⟨[],rfl,by simp⟩
 |n+1,h=>by
  obtain⟨l,h1,h2⟩:=M3 n (fun i hi=>h i zO);obtain⟨a,ha⟩:=h n zO;refine⟨l++[a],by simp[h1],fun i a' hi=>?_⟩;by_cases e:i<l.length
  ·rw[List.getElem?_append_left e]at hi;exact h2 i a' hi
  ·rw[List.getElem?_append_right zO]at hi;have:i=n:=by
    by_cases e2:i-l.length=0
    ·omega
    ·simp[List.getElem?_cons,e2]at hi
   subst this;simp[h1]at hi;subst hi;exact ha
theorem Uy{H:Type}{P:Program}{e:TypeId}:∀{ds:List (DataW H)}{i:Nat}{d:DataW H},ds[i]?=some d→∀n∈d.weights P e,n∈DataW.weightsAll P e ds
 |d0::ds,0,d,h,n,hn=>by
  simp only[List.getElem?_cons_zero,Option.some.injEq]at h;subst h;simp only[DataW.weightsAll,List.mem_append];exact .inl hn
 |d0::ds,i+1,d,h,n,hn=>by
  simp only[DataW.weightsAll,List.mem_append];exact .inr (Uy (by simpa using h) n hn)
 |[],_,_,h,_,_=>by simp at h
theorem bx.slice{P:Program}{t e:TypeId}{α:Type}{enc:α→List D}{sz k:Nat}(ht:P.underlying t=some (.slice e))(hc:P.cellsOf e=sz)(hz:sz≠0)(hb:P.bytesOf e=k+1)(h:bx P e α enc)(hl:∀a,(enc a).length=sz):bx P t (List α) (fun l=>[.snap sz false (l.map enc)]):=⟨fun{H eH w dx cs x} hr hw=>by
 rcases DataW.trod_slice ht hr with⟨rfl,rfl⟩|⟨a,len,cap,MM,rest,n,rfl,rfl,rfl,_,hlc,dA,HI,eB,x5,_⟩
 ·refine⟨[],by simp[Value.oneCell'],?_⟩;simp only[Vs,V,List.map_nil];exact⟨_,_,rfl,⟨none,0,rfl,⟨Nat.le_refl _,by simp⟩,by simp,by simp⟩,rfl⟩
 ·simp only[DataW.weights,ht,List.mem_cons,List.mem_append,hb]at hw;have hlen:len≤aG:=by
   have h1:=hw _ (.inl rfl);simp only[List.length_map,HI]at h1;have h2:=reachBytes_lt;have h3:len+rest.length≤(len+rest.length)*(k+1):=Nat.le_mul_of_pos_right _ zO;unfold aG;omega
  have hq:∀i,i<len→∃y:α,(enc y).length=sz∧∃cs:List Value,cs.length=sz∧(∀u∈cs,u.oneCell'=true)∧Vs w sB di (enc y) cs∧∀j,j<sz→w.cell? ((a.add (i*sz)).add j)=cs[j]?:=by
   intro i hi;have hg:=eB i hi;rw[hc]at hg;have jQ:i<MM.length:=by omega
   rw[List.getElem?_eq_getElem jQ]at hg;obtain⟨cs,HB,hg⟩:=Option.bind_eq_some_iff.1 hg;obtain⟨y,h1,h2⟩:=h.out hg (fun n hn=>hw n (.inr (.inl (Uy (i:=i) (d:=MM[i].1) (by simp[jQ]) n hn))));obtain⟨h3,h4⟩:=Wh HB;exact⟨y,hl y,cs,h3,h1,h2,h4⟩
  obtain⟨l,OY,hp⟩:=M3 len hq;refine⟨l,by simp[Value.oneCell'],?_⟩;simp only[Vs,V,List.length_map];refine⟨_,_,rfl,⟨some a,cap,by rw[OY],⟨by omega,by omega⟩,by simp,fun aB=>?_⟩,rfl⟩;have Ia:0<len:=by
   cases l with
   |nil=>simp at aB
   |cons _ _=>simp at OY;omega
  have h0:∃u,w.cell? a=some u:=by
   obtain⟨y,_,cs,h1,_,_,h4⟩:=hq 0 Ia;have h5:=h4 0 zO;have h6:0<cs.length:=by omega
   rw[List.getElem?_eq_getElem h6]at h5;exact⟨cs[0],by simpa[Addr.add]using h5⟩
  obtain⟨u,hu⟩:=h0;have hs:=aju hu;obtain⟨b,off,sp⟩:=a;simp only at hs;subst hs;refine⟨b,off,rfl,⟨Wf hu,fun h=>h⟩,K7 fun i y hi=>?_⟩;obtain⟨g1,cs,g2,g3,g4,g5⟩:=hp i y hi;refine⟨g1,Vs.T4 g4 g3 fun j v hj=>?_⟩;have HR:j<sz:=by
   have:=(List.getElem?_eq_some_iff.1 hj).1;omega
  rw[←hj,←g5 j HR]
  congr 1
  unfold Addr.add;by_cases e1:i*sz=0<;>by_cases e2:j=0<;>simp[e1,e2]⟩
end Go.T
