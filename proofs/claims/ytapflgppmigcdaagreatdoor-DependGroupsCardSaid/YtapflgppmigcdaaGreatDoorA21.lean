/-
  Contracts of the functions that the statement reaches, and the logic in which they are proved (no condition): parts W131, W130, W132, Core64, W133, W134.
-/
import Derived.Test.YtapflgppmigcdaaGreatDoorA20
set_option linter.all false
namespace Go.T
open Go Go.Proofs Go.Proofs.Tryz
set_option maxRecDepth 20000
structure an4(l:List aa)(s:aa)where
 pre:List aa
 rest:List aa
 done:Bool
 out:List aa
 hx:l=pre++rest
 hr:gM s l=out++oY done s rest
 ho:out.length≤pre.length+1
 EW:l.length≤1000000
theorem GR(l:List aa)(s:aa)(hl:l.length≤1000000):Fc Tryz.prog 147 [aL l,.str s] (aL (gU l s)):=by
 refine Fc.mk' [4] func147 rfl ntmps147 rfl rfl rfl (fun t w=>results_tmp results147 t _ w) ?_;refine go [15] ?_;refine br (fun h1=>?_) (fun h1=>?_)
 ·have hw:gU l s=l:=by unfold gU;rw[if_pos h1]
  exact ah rfl (Sub.snap (by rw[hw]))
 ·have hw:gU l s=gM s l:=by unfold gU;rw[if_neg (by rw[h1];simp)]
  refine oP (tL underlying48 sizeOf9) ?_;refine J.loop (ι:=an4 l s) (fun sx=>[(0,aL l),(1,.str s),(5,.gs 0 sx.out.length),(6,.b sx.done),(7,.i sx.pre.length)]) (fun sx=>[(0,.arr 1 (cM sx.out))]) (fun sx=>sx.rest.length) ⟨[],l,false,[],rfl,rfl,by simp,hl⟩ ?_ ?_
  ·exact(Le.jy 0 1).trans<|Le.mk rfl (.s rfl rfl (.s rfl rfl (.cons rfl (Sub.yA _ _) rfl (.s rfl rfl (.s rfl rfl .nil))))) (.arr rfl (by rfl) .nil)
  ·rintro⟨pre,rest,done,out,hx,hr,ho,EW⟩;show J _ _ _ _ [(0,aL l),(1,.str s),(5,.gs 0 out.length),(6,.b done),(7,.i pre.length)] [(0,.arr 1 (cM out))];have mo:=congrArg List.length hx;simp only[List.length_append]at mo;rcases rest with _|⟨x,rest⟩
   ·skip;refine go [15] ?_;refine a_ (by simp at mo⊢;omega) ?_;refine go [15] ?_;refine br (fun h2=>?_) (fun h2=>?_)
    ·refine oP (p6 underlying48 sizeOf9 zeroValue9 rfl rfl rfl rfl rfl) ?_;refine oW (fq 1 underlying48 underlying48 sizeOf9 typeInfo9 zeroValue9 rfl (bt:=16) rfl rfl rfl rfl zS rfl rfl zQ) ?_;refine J.bE (Le.freeze 5 1 rfl rfl zS) ?_;refine go [] ?_;exact ah rfl (Sub.snap (by rw[hw,hr,ans zA];simp[cM]))
    ·refine J.bE (Le.freeze 5 0 rfl rfl zS) ?_;refine go [] ?_;exact ah rfl (Sub.snap (by rw[hw,hr,ant zA];simp[cM]))
   ·simp only[List.length_cons]at mo;refine go [15] ?_;refine bk zQ ?_;refine my (fun hg=>And.intro zO (aS (fun s=>[D.str s]) hx rfl)) ?_;refine br (fun h3=>?_) (fun h3=>?_)
    ·refine ix zO (aS (fun s=>[D.str s]) hx rfl) ?_;refine br (fun h4=>?_) (fun h4=>?_)
     ·refine oP (p6 underlying48 sizeOf9 zeroValue9 rfl rfl rfl rfl rfl) ?_;refine oW (fq 1 underlying48 underlying48 sizeOf9 typeInfo9 zeroValue9 rfl (bt:=16) rfl rfl rfl rfl zS rfl rfl zQ) ?_;refine ix zO (aS (fun s=>[D.str s]) hx rfl) ?_;refine oP (p6 underlying48 sizeOf9 zeroValue9 rfl rfl rfl rfl rfl) ?_;refine oW (fq 2 underlying48 underlying48 sizeOf9 typeInfo9 zeroValue9 rfl (bt:=16) rfl rfl rfl rfl zS rfl rfl zQ) ?_;refine sd (aw zO) ?_;exact nx ⟨pre++[x],rest,true,out++[s]++[x],by simp[hx],by rw[hr,WO h3 h4];simp,by have h8:=congrArg List.length hr;have h9:=Fl (s:=s) (l:=l);rw[WO h3 h4]at h8;simp[oY]at h8⊢;omega,EW⟩ zS ((Le.mk (am:=[(2,_)]) rfl (show dE _ _ [(0,_),(1,_),(5,_),(6,_),(7,_)]from(.s rfl rfl (.s rfl rfl (.s rfl rfl (.s rfl rfl (.s rfl rfl .nil)))))) (.cons (i:=2) rfl rfl .nil)).trans<|(Le.kO 5 2 0 rfl rfl zS rfl).trans<|Le.mk rfl (.s rfl rfl (.s rfl rfl (.cons rfl (Sub.gs zS) rfl (.s rfl rfl (.cons rfl (Sub.int zS) rfl .nil))))) (.arr rfl (by simp[cM]) .nil))
     ·refine ix zO (aS (fun s=>[D.str s]) hx rfl) ?_;refine oP (p6 underlying48 sizeOf9 zeroValue9 rfl rfl rfl rfl rfl) ?_;refine oW (fq 1 underlying48 underlying48 sizeOf9 typeInfo9 zeroValue9 rfl (bt:=16) rfl rfl rfl rfl zS rfl rfl zQ) ?_;refine sd (aw zO) ?_;exact nx ⟨pre++[x],rest,true,out++[x],by simp[hx],by rw[hr,anq h3 h4];simp,by simp;omega,EW⟩ zS ((Le.mk (am:=[(1,_)]) rfl (show dE _ _ [(0,_),(1,_),(5,_),(6,_),(7,_)]from(.s rfl rfl (.s rfl rfl (.s rfl rfl (.s rfl rfl (.s rfl rfl .nil)))))) (.cons (i:=1) rfl rfl .nil)).trans<|(Le.kO 5 1 0 rfl rfl zS rfl).trans<|Le.mk rfl (.s rfl rfl (.s rfl rfl (.cons rfl (Sub.gs zS) rfl (.s rfl rfl (.cons rfl (Sub.int zS) rfl .nil))))) (.arr rfl (by simp[cM]) .nil))
    ·refine ix zO (aS (fun s=>[D.str s]) hx rfl) ?_;refine oP (p6 underlying48 sizeOf9 zeroValue9 rfl rfl rfl rfl rfl) ?_;refine oW (fq 1 underlying48 underlying48 sizeOf9 typeInfo9 zeroValue9 rfl (bt:=16) rfl rfl rfl rfl zS rfl rfl zQ) ?_;refine sd (aw zO) ?_;exact nx ⟨pre++[x],rest,done,out++[x],by simp[hx],by rw[hr,anr h3];simp,by simp;omega,EW⟩ zS ((Le.mk (am:=[(1,_)]) rfl (show dE _ _ [(0,_),(1,_),(5,_),(6,_),(7,_)]from(.s rfl rfl (.s rfl rfl (.s rfl rfl (.s rfl rfl (.s rfl rfl .nil)))))) (.cons (i:=1) rfl rfl .nil)).trans<|(Le.kO 5 1 0 rfl rfl zS rfl).trans<|Le.mk rfl (.s rfl rfl (.s rfl rfl (.cons rfl (Sub.gs zS) rfl (.s rfl rfl (.cons rfl (Sub.int zS) rfl .nil))))) (.arr rfl (by simp[cM]) .nil))
structure T4(f:Fact)where
 pre:List cT
 rest:List cT
 cur:List aa
 hx:f.opts=pre++rest
 hp:rX f=rest.foldl (fun l o=>gU l o.other) cur
 hc:cur.length≤2+pre.length
theorem T3(f:Fact)(hn:f.opts.length≤100000):Fc Tryz.prog 101 [.agg (aX f)] (aL (cC f)):=by
 refine Fc.mk' [2] func101 rfl ntmps101 rfl rfl rfl (fun t w=>results_tmp results101 t _ w) ?_;refine go [] ?_;refine oP (tL underlying48 sizeOf9) ?_;refine oP (ai call147 rfl (GR [] f.dM zS).sub) ?_;refine br (fun h1=>?_) (fun h1=>?_)
 ·have hb:=ahX (f:=f) h1;have hk:(gU (gU [] f.dM) f.other).length≤2:=by have h8:=y_ (l:=[]) (s:=f.dM);have h9:=y_ (l:=gU [] f.dM) (s:=f.other);simp only[List.length_nil]at h8;omega
  refine oP (ai call147 rfl (GR _ _ (by have h8:=y_ (l:=[]) (s:=f.dM);simp only[List.length_nil]at h8;omega))) ?_;refine J.loop (ι:=T4 f) (fun sx=>[(1,.box 0 0),(3,aL sx.cur),(4,.i sx.pre.length)]) (fun sx=>[(0,.cells (aX f))]) (fun sx=>sx.rest.length) ⟨[],_,_,rfl,hb,by simpa using hk⟩ ?_ ?_
  ·exact Le.mk rfl (.s rfl rfl (.s rfl rfl (.s rfl rfl .nil))) (.cons rfl rfl .nil)
  ·rintro⟨pre,rest,cur,hx,hp,hc⟩;show J _ _ _ _ [(1,.box 0 0),(3,aL cur),(4,.i pre.length)] [(0,.cells (aX f))];have mo:=congrArg List.length hx;simp only[List.length_append]at mo;rcases rest with _|⟨x,rest⟩
   ·skip;refine go [] ?_;refine a_ (by simp at mo⊢;omega) ?_;refine go [] ?_;exact ah rfl (Sub.snap (by rw[←T5,hp];rfl))
   ·simp only[List.length_cons]at mo;refine go [] ?_;refine bk zQ ?_;refine ix zO (aS ma hx rfl) ?_;refine oP (ai call147 rfl (GR cur x.other zO)) ?_;refine sd (aw zO) ?_;exact nx ⟨pre++[x],rest,gU cur x.other,by simp[hx],hp,by have h9:=y_ (l:=cur) (s:=x.other);simp;omega⟩ zS (Le.mk rfl (.s rfl rfl (.s rfl rfl (.cons rfl (Sub.int zS) rfl .nil))) (.cons rfl rfl .nil))
 ·have hb:=ahW (f:=f) h1;have hk:(gU [] f.dM).length≤2:=by have h8:=y_ (l:=[]) (s:=f.dM);simp only[List.length_nil]at h8;omega
  refine J.loop (ι:=T4 f) (fun sx=>[(1,.box 0 0),(3,aL sx.cur),(4,.i sx.pre.length)]) (fun sx=>[(0,.cells (aX f))]) (fun sx=>sx.rest.length) ⟨[],_,_,rfl,hb,by simpa using hk⟩ ?_ ?_
  ·exact Le.mk rfl (.s rfl rfl (.s rfl rfl (.s rfl rfl .nil))) (.cons rfl rfl .nil)
  ·rintro⟨pre,rest,cur,hx,hp,hc⟩;show J _ _ _ _ [(1,.box 0 0),(3,aL cur),(4,.i pre.length)] [(0,.cells (aX f))];have mo:=congrArg List.length hx;simp only[List.length_append]at mo;rcases rest with _|⟨x,rest⟩
   ·skip;refine go [] ?_;refine a_ (by simp at mo⊢;omega) ?_;refine go [] ?_;exact ah rfl (Sub.snap (by rw[←T5,hp];rfl))
   ·simp only[List.length_cons]at mo;refine go [] ?_;refine bk zQ ?_;refine ix zO (aS ma hx rfl) ?_;refine oP (ai call147 rfl (GR cur x.other zO)) ?_;refine sd (aw zO) ?_;exact nx ⟨pre++[x],rest,gU cur x.other,by simp[hx],hp,by have h9:=y_ (l:=cur) (s:=x.other);simp;omega⟩ zS (Le.mk rfl (.s rfl rfl (.s rfl rfl (.cons rfl (Sub.int zS) rfl .nil))) (.cons rfl rfl .nil))
structure ad4(l:List aa)(s:aa)where
 pre:List aa
 rest:List aa
 hx:l=pre++rest
 hp:pre.any (fun y=>decide (y=s))=false
theorem Jt(l:List aa)(s:aa):Fc Tryz.prog 73 [aL l,.str s] (.b (rn l s)):=by
 refine Fc.mk' [4] func73 rfl ntmps73 rfl rfl rfl (fun t w=>results_tmp results73 t _ w) ?_;refine J.eu 0 rfl (fun hb=>?_);simp only[List.length_map,aG]at hb;refine go [] ?_;refine J.loop (ι:=ad4 l s) (fun sx=>[(0,aL l),(1,.str s),(5,.i sx.pre.length)]) (fun sx=>[]) (fun sx=>sx.rest.length) ⟨[],l,rfl,rfl⟩ ?_ ?_
 ·exact Le.mk rfl (.s rfl rfl (.s rfl rfl (.s rfl rfl .nil))) .nil
 ·rintro⟨pre,rest,hx,hp⟩;show J _ _ _ _ [(0,aL l),(1,.str s),(5,.i pre.length)] [];have hl:=congrArg List.length hx;simp only[List.length_append]at hl;rcases rest with _|⟨x,rest⟩
  ·skip;refine go [] ?_;refine a_ (by simp at hl⊢;omega) ?_;refine go [] ?_;exact ah rfl (Sub.bool (by exact(mO hx hp).symm))
  ·simp only[List.length_cons]at hl;refine go [] ?_;refine bk zQ ?_;refine ix zO (aS (fun s=>[D.str s]) hx rfl) ?_;refine br (fun h1=>?_) (fun h1=>?_)
   ·exact ah rfl (Sub.bool (by exact(nD hx h1).symm))
   ·refine sd (aw zO) ?_;exact nx ⟨pre++[x],rest,by simp[hx],iZ hp h1⟩ zS (Le.mk rfl (.s rfl rfl (.s rfl rfl (.cons rfl (Sub.int zS) rfl .nil))) .nil)
structure afk(l:List aa)(s:aa)where
 pre:List aa
 rest:List aa
 hx:l=pre++rest
 hr:gM s l=pre++gM s rest
theorem RM(l:List aa)(s:aa)(hl:l.length≤10000000):Fc Tryz.prog 78 [aL l,.str s] (aL (gM s l)):=by
 refine Fc.mk' [4] func78 rfl ntmps78 rfl rfl rfl (fun t w=>results_tmp results78 t _ w) ?_;refine J.seq (J.af [.p] ?_);refine .ag rfl rfl<|.nil ?_;refine J.seq (J.af [.p] ?_);refine .ag rfl rfl<|.nil ?_;refine J.seq ?_;refine J.block ?_;refine J.loop (ι:=afk l s) (fun sx=>[(0,aL l),(1,.str s),(5,.i sx.pre.length)]) (fun sx=>[]) (fun sx=>sx.rest.length) ⟨[],l,rfl,rfl⟩ ?_ ?_
 ·exact Le.mk rfl (.s rfl rfl (.s rfl rfl (.s rfl rfl .nil))) .nil
 ·rintro⟨pre,rest,hx,hr⟩;show J _ _ _ _ [(0,aL l),(1,.str s),(5,.i pre.length)] [];have mo:=congrArg List.length hx;simp only[List.length_append]at mo;rcases rest with _|⟨x,rest⟩
  ·skip;refine J.seq (J.seq (J.af [.p,.p,.p,.p,.p,.p,.p,.p,.p,.p,.p,.p] ?_));refine .mv rfl rfl<|.mv rfl rfl<|.P rfl (cY underlying48 rfl)<|.P rfl (bQ rfl rfl)<|.mv rfl rfl ?_;refine .off rfl (gf rfl rfl rfl (by simp at*;omega)) ?_;refine .off rfl (gf rfl rfl rfl (by simp at*;omega)) ?_;refine .off rfl (gf rfl rfl rfl (by simp at*;omega)) ?_;refine .off rfl (gf rfl rfl rfl (by simp at*;omega)) ?_;refine .off rfl (gf rfl rfl rfl (by simp at*;omega)) ?_;refine .off rfl (gf rfl rfl rfl (by simp at*;omega)) ?_;refine .P rfl (xr rfl (by simp at*;omega) rfl)<|.nil ?_;refine J.eF rfl rfl ?_;refine J.exit (dO (dG ?_));refine J.seq (J.seq (J.af [.p,.p,.p,.p,.p,.p,.p,.p,.p,.p,.p,.p] ?_));refine .mv rfl rfl<|.mv rfl rfl<|.P rfl (cY underlying48 rfl)<|.P rfl (bQ rfl rfl)<|.mv rfl rfl ?_;refine .off rfl (gf rfl rfl rfl (by simp at*;omega)) ?_;refine .off rfl (gf rfl rfl rfl (by simp at*;omega)) ?_;refine .off rfl (gf rfl rfl rfl (by simp at*;omega)) ?_;refine .off rfl (gf rfl rfl rfl (by simp at*;omega)) ?_;refine .off rfl (gf rfl rfl rfl (by simp at*;omega)) ?_;refine .off rfl (gf rfl rfl rfl (by simp at*;omega)) ?_;refine .P rfl (xr rfl (by simp at*;omega) rfl)<|.nil ?_;refine J.eF rfl rfl ?_;refine J.skip ?_;refine J.seq (J.oU [.p,.p,.p,.p,.w,.p,.p,.w,.p,.p,.p,.w,.p] lh zK ?_)
   refine .P rfl (tL underlying48 sizeOf9)<|.mv rfl rfl<|.mv rfl rfl<|.P rfl (oT underlying48 sizeOf9 rfl (l:=0) (h:=pre.length) (r:=cM pre) (.inl ⟨rfl,rfl⟩) (.inr ⟨_,_,rfl,rfl⟩) zO (by simp[hx]) (by subst hx;simp[cM,←List.map_take]))<|.W rfl (aq.jy 0 1 (t:=33) rfl (Sub.yA _ _) (fq 1 underlying48 underlying48 sizeOf9 typeInfo9 zeroValue9 rfl (bt:=16) rfl rfl rfl rfl rfl rfl rfl zQ))<|.mv rfl rfl<|.P rfl (p6 underlying48 sizeOf9 zeroValue9 rfl rfl rfl rfl rfl)<|.W rfl (fq 2 underlying48 underlying48 sizeOf9 typeInfo9 zeroValue9 rfl (bt:=16) rfl rfl rfl rfl zS rfl rfl zQ)<|.mv rfl rfl<|.mv rfl rfl<|.P rfl (oT underlying48 sizeOf9 rfl (l:=pre.length) (h:=l.length) (r:=cM (l.drop pre.length)) (.inr ⟨_,_,rfl,rfl⟩) (.inl ⟨rfl,by simp⟩) zO zS (by simp[cM,List.take_of_length_le]))<|.W rfl (fq 3 underlying48 underlying48 sizeOf9 typeInfo9 zeroValue9 rfl (bt:=16) rfl rfl rfl rfl zS rfl rfl zQ)<|.ag rfl rfl<|.nil ?_;refine J.bE (Le.freeze 4 3 rfl rfl zQ) ?_;refine J.ret (?_);exact dn rfl (Sub.snap (by rw[hr];simp[cM,hx,gM]))
  ·simp only[List.length_cons]at mo;refine J.seq (J.seq (J.af [.p,.p,.p,.p,.p,.p,.p,.p,.p,.p,.p,.p] ?_));refine .mv rfl rfl<|.mv rfl rfl<|.P rfl (cY underlying48 rfl)<|.P rfl (bQ rfl rfl)<|.mv rfl rfl<|.p rfl (eB rfl rfl rfl zQ) (fun _=>aT rfl _)<|.p rfl (eB rfl rfl rfl zQ) (fun _=>aT rfl _)<|.p rfl (eB rfl rfl rfl zQ) (fun _=>gm underlying48 sizeOf9 rfl rfl zO (aS (fun s=>[D.str s]) hx rfl) _)<|.p rfl (eB rfl rfl rfl zQ) (fun _=>bP isAgg9 rfl _)<|.p rfl (eB rfl rfl rfl zQ) (fun _=>aT rfl _)<|.p rfl (eB rfl rfl rfl zQ) (fun _=>Vv rfl rfl _)<|.P rfl (tP rfl zQ rfl)<|.nil ?_;refine J.cond rfl (fun h1=>?_) (fun h1=>?_)
   ·refine J.skip ?_;refine J.block ?_;refine J.af [.p,.p,.p] ?_;refine .mv rfl rfl<|.P rfl (bU rfl rfl (aw zO))<|.ag rfl rfl<|.nil ?_;refine J.nil (cn ?_);refine J.nil (cZ ?_);exact⟨⟨pre++[x],rest,by simp[hx],by rw[hr,gM,if_pos h1];simp⟩,by simp,Le.mk rfl (.s rfl rfl (.s rfl rfl (.cons rfl (Sub.int zS) rfl .nil))) .nil⟩
   ·refine J.exit (dO (dG ?_));refine J.seq (J.seq (J.af [.p,.p,.p,.p,.p,.p,.p,.p,.p,.p,.p,.p] ?_));refine .mv rfl rfl<|.mv rfl rfl<|.P rfl (cY underlying48 rfl)<|.P rfl (bQ rfl rfl)<|.mv rfl rfl<|.p rfl (eB rfl rfl rfl zQ) (fun _=>aT rfl _)<|.p rfl (eB rfl rfl rfl zQ) (fun _=>aT rfl _)<|.p rfl (eB rfl rfl rfl zQ) (fun _=>gm underlying48 sizeOf9 rfl rfl zO (aS (fun s=>[D.str s]) hx rfl) _)<|.p rfl (eB rfl rfl rfl zQ) (fun _=>bP isAgg9 rfl _)<|.p rfl (eB rfl rfl rfl zQ) (fun _=>aT rfl _)<|.p rfl (eB rfl rfl rfl zQ) (fun _=>L0 rfl rfl _)<|.P rfl (tP rfl zQ rfl)<|.nil ?_;refine J.cond rfl (fun h2=>?_) (fun h2=>?_)
    ·refine J.seq (J.af [.p,.p] ?_);refine .mv rfl rfl<|.ag rfl rfl<|.nil ?_;refine J.ret (?_);exact dn rfl (Sub.snap (by rw[hr,gM,if_neg (by rw[h1];simp),if_pos h2,←hx]))
    ·refine J.skip ?_;refine J.seq (J.oU [.p,.p,.p,.p,.w,.p,.p,.w,.p,.p,.p,.w,.p] lh zK ?_);refine .P rfl (tL underlying48 sizeOf9)<|.mv rfl rfl<|.mv rfl rfl<|.P rfl (oT underlying48 sizeOf9 rfl (l:=0) (h:=pre.length) (r:=cM pre) (.inl ⟨rfl,rfl⟩) (.inr ⟨_,_,rfl,rfl⟩) zO (by simp[hx]) (by subst hx;simp[cM,←List.map_take]))<|.W rfl (aq.jy 0 1 (t:=33) rfl (Sub.yA _ _) (fq 1 underlying48 underlying48 sizeOf9 typeInfo9 zeroValue9 rfl (bt:=16) rfl rfl rfl rfl rfl rfl rfl zQ))<|.mv rfl rfl<|.P rfl (p6 underlying48 sizeOf9 zeroValue9 rfl rfl rfl rfl rfl)<|.W rfl (fq 2 underlying48 underlying48 sizeOf9 typeInfo9 zeroValue9 rfl (bt:=16) rfl rfl rfl rfl zS rfl rfl zQ)<|.mv rfl rfl<|.mv rfl rfl<|.P rfl (oT underlying48 sizeOf9 rfl (l:=pre.length) (h:=l.length) (r:=cM (l.drop pre.length)) (.inr ⟨_,_,rfl,rfl⟩) (.inl ⟨rfl,by simp⟩) zO zS (by simp[cM,List.take_of_length_le]))<|.W rfl (fq 3 underlying48 underlying48 sizeOf9 typeInfo9 zeroValue9 rfl (bt:=16) rfl rfl rfl rfl zS rfl rfl zQ)<|.ag rfl rfl<|.nil ?_;refine J.bE (Le.freeze 4 3 rfl rfl zQ) ?_;refine J.ret (?_);exact dn rfl (Sub.snap (by rw[hr,gM,if_neg (by rw[h1];simp),if_neg (by rw[h2];simp)];simp[cM,hx]))
structure afP(gs:List (List aa))(ns:List aa)where
 kh:List aa
 oV:List aa
 lD:ns=kh++oV
structure afQ(gs:List (List aa))(ns:List aa)where
 pre:List (List aa)
 rest:List (List aa)
 hx:gs=pre++rest
structure afR(gs:List (List aa))(ns:List aa)(pre:List (List aa))(x:List aa)where
 au:List aa
 aC:List aa
 aU:x=au++aC
structure afS(gs:List (List aa))(ns:List aa)(pre:List (List aa))(x:List aa)where
 tK:List aa
 Ad:List aa
 BH:x=tK++Ad
theorem R4(gs:List (List aa))(ns:List aa)(hg:gs.flatten.length≤1000000)(cK:gs.length≤1000000)(hn:ns.length≤1000000):Fc Tryz.prog 100 [cB gs,aL ns] (cB (kf gs ns)):=by
 refine Fc.mk' [4] func100 rfl ntmps100 rfl rfl rfl (fun t w=>results_tmp results100 t _ w) ?_;refine go [23] ?_;refine J.loop (ι:=afP gs ns) (fun sx=>[(0,cB gs),(1,aL ns),(5,.raw (.slice none 0 0)),(6,aL (eJ [] sx.kh)),(7,.i sx.kh.length)]) (fun sx=>[]) (fun sx=>sx.oV.length) ⟨[],ns,rfl⟩ ?_ ?_
 ·exact Le.mk rfl (.s rfl rfl (.s rfl rfl (.s rfl rfl (.cons rfl ((Sub.nil _ false).trans (Sub.snap zS)) rfl (.s rfl rfl .nil))))) .nil
 ·rintro⟨kh,oV,lD⟩;show J _ _ _ _ [(0,cB gs),(1,aL ns),(5,.raw (.slice none 0 0)),(6,aL (eJ [] kh)),(7,.i kh.length)] [];have uK:=congrArg List.length lD;simp only[List.length_append]at uK;rcases oV with _|⟨x0,oV⟩
  ·obtain rfl:ns=kh:=by simpa using lD
   refine go [23] ?_;refine a_ zS ?_;refine go [23] ?_;refine J.loop (ι:=afQ gs ns) (fun sx=>[(0,cB gs),(1,aL ns),(5,.gs 0 (gG sx.pre ns).length),(6,aL (gi sx.pre ns (eJ [] ns))),(8,.i sx.pre.length)]) (fun sx=>[(0,.arr 1 ((gG sx.pre ns).map (fun v:List aa=>[aL v])))]) (fun sx=>sx.rest.length) ⟨[],gs,rfl⟩ ?_ ?_
   ·exact(Le.jy 0 1).trans<|Le.mk rfl (.s rfl rfl (.s rfl rfl (.cons rfl (Sub.wm _) rfl (.cons rfl (Sub.refl _) rfl (.s rfl rfl .nil))))) (.arr rfl (by rfl) .nil)
   ·rintro⟨pre,rest,hx⟩;show J _ _ _ _ [(0,cB gs),(1,aL ns),(5,.gs 0 (gG pre ns).length),(6,aL (gi pre ns (eJ [] ns))),(8,.i pre.length)] [(0,.arr 1 ((gG pre ns).map (fun v:List aa=>[aL v])))];have hl:=congrArg List.length hx;simp only[List.length_append]at hl;rcases rest with _|⟨x,rest⟩
    ·obtain rfl:gs=pre:=by simpa using hx
     have Bk:(gG gs ns).length≤gs.length:=List.length_filter_le _ _;refine go [23] ?_;refine a_ zS ?_;refine go [23] ?_;refine br (fun h1=>?_) (fun h1=>?_)
     ·refine oP (bK (n:=1) (rows:=[[aL (gi gs ns (eJ [] ns))]]) underlying43 sizeOf48 rfl rfl rfl zeroValue48 rfl rfl rfl rfl rfl rfl rfl) ?_;refine oW (fq 1 underlying43 underlying43 sizeOf48 typeInfo48 zeroValue48 rfl (bt:=24) rfl rfl rfl rfl zS rfl rfl (by have h9:=Bk;simp at h9⊢;omega)) ?_;refine J.bE (Le.freeze 5 1 rfl rfl zS) ?_;refine go [] ?_;exact ah rfl (Sub.snap (by unfold kf;(rw[if_pos (by have h9:=h1;rw[List.length_map]at h9;exact h9)];simp;done)))
     ·refine J.bE (Le.freeze 5 0 rfl rfl zS) ?_;refine go [] ?_;exact ah rfl (Sub.snap (by unfold kf;(rw[if_neg (by have h9:=h1;rw[List.length_map]at h9;rw[h9];simp)];simp;done)))
    ·simp only[List.length_cons]at hl;have Bk:(gG pre ns).length≤pre.length:=List.length_filter_le _ _;have Rg:=Fm ns pre (eJ [] ns);have ET:=y9 (ns:=ns) (one:=[]);have iC:gs.flatten.length=pre.flatten.length+(x.length+rest.flatten.length):=by rw[hx];simp
     simp only[List.length_nil]at ET;refine go [23] ?_;refine bk zQ ?_;refine J.loop (ι:=afR gs ns pre x) (fun sx=>[(0,cB gs),(1,aL ns),(5,.gs 0 (gG pre ns).length),(6,aL (gi pre ns (eJ [] ns))),(8,.i pre.length),(9,.b (k7 ns sx.au)),(10,.i sx.au.length)]) (fun sx=>[(0,.arr 1 ((gG pre ns).map (fun v:List aa=>[aL v])))]) (fun sx=>sx.aC.length) ⟨[],x,rfl⟩ ?_ ?_
     ·exact Le.mk rfl (.s rfl rfl (.s rfl rfl (.cons rfl (Sub.gs zS) rfl (.s rfl rfl (.s rfl rfl (.s rfl rfl (.s rfl rfl .nil))))))) (.arr rfl zS .nil)
     ·rintro⟨au,aC,aU⟩;show J _ _ _ _ [(0,cB gs),(1,aL ns),(5,.gs 0 (gG pre ns).length),(6,aL (gi pre ns (eJ [] ns))),(8,.i pre.length),(9,.b (k7 ns au)),(10,.i au.length)] [(0,.arr 1 ((gG pre ns).map (fun v:List aa=>[aL v])))];have bN:=congrArg List.length aU;simp only[List.length_append]at bN;rcases aC with _|⟨x2,aC⟩
      ·obtain rfl:x=au:=by simpa using aU
       refine go [23] ?_;refine ix zO (aS (fun v:List aa=>[aL v]) hx rfl) ?_;refine a_ zS ?_;refine go [23] ?_;refine br (fun h2=>?_) (fun h2=>?_)
       ·refine ix zO (aS (fun v:List aa=>[aL v]) hx rfl) ?_;refine oP (bK (n:=1) (rows:=[[aL x]]) underlying43 sizeOf48 rfl rfl rfl zeroValue48 rfl rfl rfl rfl rfl rfl rfl) ?_;refine oW (fq 1 underlying43 underlying43 sizeOf48 typeInfo48 zeroValue48 rfl (bt:=24) rfl rfl rfl rfl zS rfl rfl (by have h9:=Bk;simp at h9⊢;omega)) ?_;refine go [23] ?_;refine sd (aw zO) ?_;exact nx ⟨pre++[x],rest,by simp[hx]⟩ zS ((Le.mk (am:=[(1,_)]) rfl (show dE _ _ [(0,_),(1,_),(5,_),(6,_),(8,_)]from(.s rfl rfl (.s rfl rfl (.s rfl rfl (.s rfl rfl (.s rfl rfl .nil)))))) (.cons (i:=1) rfl rfl .nil)).trans<|(Le.kO 5 1 0 rfl rfl zS rfl).trans<|Le.mk rfl (.s rfl rfl (.s rfl rfl (.cons rfl (Sub.gs (by rw[R9 (by simpa using h2)];simp)) rfl (.cons rfl (Sub.snap (by rw[aiD (by simpa using h2)])) rfl (.cons rfl (Sub.int zS) rfl .nil))))) (.arr rfl (by rw[R9 (by simpa using h2)];simp) .nil))
       ·refine J.loop (ι:=afS gs ns pre x) (fun sx=>[(0,cB gs),(1,aL ns),(5,.gs 0 (gG pre ns).length),(6,aL (eJ (gi pre ns (eJ [] ns)) sx.tK)),(8,.i pre.length),(11,.i sx.tK.length)]) (fun sx=>[(0,.arr 1 ((gG pre ns).map (fun v:List aa=>[aL v])))]) (fun sx=>sx.Ad.length) ⟨[],x,rfl⟩ ?_ ?_
        ·exact Le.mk rfl (.s rfl rfl (.s rfl rfl (.cons rfl (Sub.gs zS) rfl (.cons rfl (Sub.refl _) rfl (.s rfl rfl (.s rfl rfl .nil)))))) (.arr rfl zS .nil)
        ·rintro⟨tK,Ad,BH⟩;show J _ _ _ _ [(0,cB gs),(1,aL ns),(5,.gs 0 (gG pre ns).length),(6,aL (eJ (gi pre ns (eJ [] ns)) tK)),(8,.i pre.length),(11,.i tK.length)] [(0,.arr 1 ((gG pre ns).map (fun v:List aa=>[aL v])))];have yK:=congrArg List.length BH;simp only[List.length_append]at yK;rcases Ad with _|⟨x3,Ad⟩
         ·have aeW:x=tK:=by simpa using BH
          refine go [23] ?_;refine ix zO (aS (fun v:List aa=>[aL v]) hx rfl) ?_;refine a_ (by simp at yK⊢;omega) ?_;refine J.nil (cn (id:=0) (Q:=fun _ _ _=>False) ?_);refine go [23] ?_;refine sd (aw zO) ?_;exact nx ⟨pre++[x],rest,by simp[hx]⟩ zS (Le.mk rfl (.s rfl rfl (.s rfl rfl (.cons rfl (Sub.gs (by rw[R_ (by simpa using h2)])) rfl (.cons rfl (Sub.snap (by rw[aiE (by simpa using h2),←aeW])) rfl (.cons rfl (Sub.int zS) rfl .nil))))) (.arr rfl (by rw[R_ (by simpa using h2)]) .nil))
         ·simp only[List.length_cons]at yK;refine go [23] ?_;refine ix zO (aS (fun v:List aa=>[aL v]) hx rfl) ?_;refine bk zQ ?_;refine ix zO (aS (fun v:List aa=>[aL v]) hx rfl) ?_;refine ix zO (aS (fun s=>[D.str s]) BH rfl) ?_;refine oP (ai call78 rfl (RM _ x3 (by have h9:=y9 (ns:=tK) (one:=(gi pre ns (eJ [] ns)));omega))) ?_;refine sd (aw zO) ?_;exact nx ⟨tK++[x3],Ad,by simp[BH]⟩ zS (Le.mk rfl (.s rfl rfl (.s rfl rfl (.cons rfl (Sub.gs zS) rfl (.cons rfl (Sub.snap (by rw[RL])) rfl (.s rfl rfl (.cons rfl (Sub.int zS) rfl .nil)))))) (.arr rfl zS .nil))
      ·simp only[List.length_cons]at bN;refine go [23] ?_;refine ix zO (aS (fun v:List aa=>[aL v]) hx rfl) ?_;refine bk zQ ?_;refine my (fun hg=>And.intro zO (aS (fun v:List aa=>[aL v]) hx rfl)) ?_;refine my (fun hg=>And.intro zO (aS (fun s=>[D.str s]) aU rfl)) ?_;refine gP (fun hg=>ai call73 rfl (Jt _ _)) ?_;refine sd (aw zO) ?_;exact nx ⟨au++[x2],aC,by simp[aU]⟩ zS (Le.mk rfl (.s rfl rfl (.s rfl rfl (.cons rfl (Sub.gs zS) rfl (.s rfl rfl (.s rfl rfl (.cons rfl (Sub.bool (by simp[k7])) rfl (.cons rfl (Sub.int zS) rfl .nil))))))) (.arr rfl zS .nil))
  ·simp only[List.length_cons]at uK;refine go [23] ?_;refine bk zQ ?_;refine ix zO (aS (fun s=>[D.str s]) lD rfl) ?_;refine oP (ai call78 rfl (RM _ x0 (by have h9:=y9 (ns:=kh) (one:=[]);simp only[List.length_nil]at h9;omega))) ?_;refine sd (aw zO) ?_;exact nx ⟨kh++[x0],oV,by simp[lD]⟩ zS (Le.mk rfl (.s rfl rfl (.s rfl rfl (.s rfl rfl (.cons rfl (Sub.snap (by rw[RL])) rfl (.cons rfl (Sub.int zS) rfl .nil))))) .nil)
theorem BI{l pre rest:List aW}{x:aW}{n:Int}(h:l=pre++x::rest)(hn:n=(pre.length:Int)):(l.map gA)[n.toNat]?=some [D.str x.id,.i x.kind,.str x.cur,.i x.places,.i x.wS,.i x.rP,.str x.fk.num,.str x.fk.den,.str x.fh.num,.str x.fh.den,.i x.qC,.i x.count,.str x.other,.str x.e_.num,.str x.e_.den]:=aS gA h hn
theorem RF{l pre rest:List Fact}{f:Fact}{n:Int}(h:l=pre++f::rest)(hn:n=(pre.length:Int)):(l.map aX)[n.toNat]?=some [D.str f.key,.i f.lW,.b f.cancelled,.i f.day,.i f.kind,.str f.dM,.str f.other,.str f.cur,.str f.target,.str f.dm,.str f.mN,.str f.mU,.str f.d_.num,.str f.d_.den,.str f.ratio.num,.str f.ratio.den,.str f.share.num,.str f.share.den,mH f.fL,kn f.opts,.i f.choice]:=aS aX h hn
def xE(x:aW):Prop:=jj x.fk∧jj x.fh∧jj x.e_
structure alQ(l:List bA)where
 pre:List bA
 rest:List bA
 hx:l=pre++rest
 jc:l.length≤16
 hp:lk [] l=lk pre rest
structure alR(l:List bA)(pre:List bA)(x:bA)where
 au:List bA
 aC:List bA
 aU:pre=au++aC
 hq:au.any (fun y=>decide (y.code=x.code))=false
theorem alP(l:List bA):Fc Tryz.prog 133 [fM l] (.i (l6 l)):=by
 refine Fc.mk' [2] func133 rfl ntmps133 rfl rfl rfl (fun t w=>results_tmp results133 t _ w) ?_;refine J.eu 0 rfl (fun hb=>?_);simp only[List.length_map,aG]at hb;refine go [] ?_;refine br (fun h1=>?_) (fun h1=>?_)
 ·exact ah rfl (Sub.int (by unfold l6;rw[if_pos (by have h9:=h1;simp at h9;omega)]))
 ·refine J.loop (ι:=alQ l) (fun sx=>[(0,fM l),(3,.i sx.pre.length)]) (fun sx=>[]) (fun sx=>sx.rest.length) ⟨[],l,rfl,by have h9:=h1;simp at h9;omega,rfl⟩ ?_ ?_
  ·exact Le.mk rfl (.s rfl rfl (.s rfl rfl .nil)) .nil
  ·rintro⟨pre,rest,hx,jc,hp⟩;show J _ _ _ _ [(0,fM l),(3,.i pre.length)] [];have hl:=congrArg List.length hx;simp only[List.length_append]at hl;rcases rest with _|⟨x,rest⟩
   ·have m6:l6 l=0:=by rw[show(0:Int)=lk pre []from rfl,←hp];unfold l6;rw[if_neg zO]
    refine go [] ?_;refine a_ (by simp at hl⊢;omega) ?_;refine go [] ?_;exact ah rfl (Sub.int (by exact m6.symm))
   ·simp only[List.length_cons]at hl;have m6:l6 l=lk pre (x::rest):=by rw[←hp];unfold l6;rw[if_neg zO]
    refine go [] ?_;refine bk zQ ?_;refine ix zO (aS l_ hx rfl) ?_;refine oP (ai call189 rfl (ZB _)) ?_;refine br (fun h2=>?_) (fun h2=>?_)
    ·exact ah rfl (Sub.int (by exact xY m6 (N9 h2) zD))
    ·refine ix zO (aS l_ hx rfl) ?_;refine my (fun hg=>And.intro zO (aS l_ hx rfl)) ?_;refine br (fun h3=>?_) (fun h3=>?_)
     ·exact ah rfl (Sub.int (by exact xY m6 (N_ h2 h3) zD))
     ·refine J.loop (ι:=alR l pre x) (fun sx=>[(0,fM l),(3,.i pre.length),(4,.i sx.au.length)]) (fun sx=>[]) (fun sx=>sx.aC.length) ⟨[],pre,rfl,rfl⟩ ?_ ?_
      ·exact Le.mk rfl (.s rfl rfl (.s rfl rfl (.s rfl rfl .nil))) .nil
      ·rintro⟨au,aC,aU,hq⟩;show J _ _ _ _ [(0,fM l),(3,.i pre.length),(4,.i au.length)] [];have bN:=congrArg List.length aU;simp only[List.length_append]at bN;rcases aC with _|⟨y,aC⟩
       ·have E3:pre.any (fun y=>decide (y.code=x.code))=false:=by rw[aU,List.append_nil];exact hq
        refine go [] ?_;refine a_ (by simp at bN⊢;omega) ?_;refine J.nil (cn ?_);refine go [] ?_;refine sd (aw zO) ?_;exact nx ⟨pre++[x],rest,by simp[hx],jc,NS hp (ZX h2 h3 E3)⟩ zS (Le.mk rfl (.s rfl rfl (.cons rfl (Sub.int zS) rfl .nil)) .nil)
       ·simp only[List.length_cons]at bN;refine go [] ?_;refine bk zQ ?_;refine ix zO (aS l_ (ahv hx aU) rfl) ?_;refine ix zO (aS l_ hx rfl) ?_;refine ord ?_;refine br (fun h4=>?_) (fun h4=>?_)
        ·exact ah rfl (Sub.int (by exact xY m6 (ZY h2 h3 (by rw[aU,List.any_append,List.any_cons];simp at*;grind)) zD))
        ·refine sd (aw zO) ?_;exact nx ⟨au++[y],aC,by simp[aU],by rw[List.any_append,hq];simpa using h4⟩ zS (Le.mk rfl (.s rfl rfl (.s rfl rfl (.cons rfl (Sub.int zS) rfl .nil))) .nil)
structure acB(l:List aW)(id:aa)where
 pre:List aW
 rest:List aW
 hx:l=pre++rest
 hp:pre.any (fun y=>decide (y.id=id))=false
theorem acA(l:List aW)(id:aa):Fc Tryz.prog 113 [iW l,.str id] (.bj [.i (max (jq (fun y=>decide (y.id=id)) l) 0),.b (l.any (fun y=>decide (y.id=id)))]):=by
 refine Fc.mk' [4,5] func113 rfl ntmps113 rfl rfl rfl (fun t w=>results_tmp2 results113 t _ w) ?_;refine J.eu 0 rfl (fun hb=>?_);simp only[List.length_map,aG]at hb;refine go [] ?_;refine J.loop (ι:=acB l id) (fun sx=>[(0,iW l),(1,.str id),(6,.i sx.pre.length)]) (fun sx=>[]) (fun sx=>sx.rest.length) ⟨[],l,rfl,rfl⟩ ?_ ?_
 ·exact Le.mk rfl (.s rfl rfl (.s rfl rfl (.s rfl rfl .nil))) .nil
 ·rintro⟨pre,rest,hx,hp⟩;show J _ _ _ _ [(0,iW l),(1,.str id),(6,.i pre.length)] [];have hl:=congrArg List.length hx;simp only[List.length_append]at hl;rcases rest with _|⟨x,rest⟩
  ·skip;refine go [] ?_;refine a_ (by simp at hl⊢;omega) ?_;refine go [] ?_;exact fu rfl rfl (Sub.int (by exact acI hx hp)) (Sub.bool (by exact(mO hx hp).symm))
  ·simp only[List.length_cons]at hl;refine go [] ?_;refine bk zQ ?_;refine ix zO (aS gA hx rfl) ?_;refine br (fun h1=>?_) (fun h1=>?_)
   ·exact fu rfl rfl (Sub.int (by exact acJ hx hp h1)) (Sub.bool (by exact(nD hx h1).symm))
   ·refine sd (aw zO) ?_;exact nx ⟨pre++[x],rest,by simp[hx],iZ hp h1⟩ zS (Le.mk rfl (.s rfl rfl (.s rfl rfl (.cons rfl (Sub.int zS) rfl .nil))) .nil)
structure ad3(t:List bA)(c:aa)where
 pre:List bA
 rest:List bA
 hx:t=pre++rest
 hp:pre.any (fun y=>decide (y.code=c))=false
theorem Qx(t:List bA)(c:aa):Fc Tryz.prog 135 [fM t,.str c] (.b (uB t c)):=by
 refine Fc.mk' [4] func135 rfl ntmps135 rfl rfl rfl (fun t w=>results_tmp results135 t _ w) ?_;refine J.eu 0 rfl (fun hb=>?_);simp only[List.length_map,aG]at hb;refine go [] ?_;refine J.loop (ι:=ad3 t c) (fun sx=>[(0,fM t),(1,.str c),(5,.i sx.pre.length)]) (fun sx=>[]) (fun sx=>sx.rest.length) ⟨[],t,rfl,rfl⟩ ?_ ?_
 ·exact Le.mk rfl (.s rfl rfl (.s rfl rfl (.s rfl rfl .nil))) .nil
 ·rintro⟨pre,rest,hx,hp⟩;show J _ _ _ _ [(0,fM t),(1,.str c),(5,.i pre.length)] [];have hl:=congrArg List.length hx;simp only[List.length_append]at hl;rcases rest with _|⟨x,rest⟩
  ·skip;refine go [] ?_;refine a_ (by simp at hl⊢;omega) ?_;refine go [] ?_;exact ah rfl (Sub.bool (by exact(mO hx hp).symm))
  ·simp only[List.length_cons]at hl;refine go [] ?_;refine bk zQ ?_;refine ix zO (aS l_ hx rfl) ?_;refine br (fun h1=>?_) (fun h1=>?_)
   ·exact ah rfl (Sub.bool (by exact(nD hx h1).symm))
   ·refine sd (aw zO) ?_;exact nx ⟨pre++[x],rest,by simp[hx],iZ hp h1⟩ zS (Le.mk rfl (.s rfl rfl (.s rfl rfl (.cons rfl (Sub.int zS) rfl .nil))) .nil)
theorem acz(l:List aW)(id:aa):∃(k:Int) (q:Bool),k=max (jq (fun y=>decide (y.id=id)) l) 0∧Fc Tryz.prog 113 [iW l,.str id] (.bj [.i k,.b q]):=⟨_,_,rfl,acA l id⟩
structure afm(i:aW)where
 pre:List aM
 rest:List aM
 hx:[i.fk,i.fh,i.e_]=pre++rest
 hp:qv i=iU (y6 i) rest
theorem afl(i:aW)(hi:xE i):Fc Tryz.prog 134 [.agg (gA i)] (.i (qv i)):=by
 refine Fc.mk' [2] func134 rfl ntmps134 rfl rfl rfl (fun t w=>results_tmp results134 t _ w) ?_;have hi1:=hi.1;have hi2:=hi.2.1;have hi3:=hi.2.2;refine go [] ?_;refine oP (ai call94 rfl (w8 _)) ?_;refine br (fun h1=>?_) (fun h1=>?_)
 ·exact ah rfl (Sub.int (by unfold qv;exact iT h1))
 ·refine br (fun h2=>?_) (fun h2=>?_)
  ·exact ah rfl (Sub.int (by(unfold qv;exact iF h1 (iT h2))))
  ·refine oP (ai call139 rfl (DI _)) ?_;refine br (fun h3=>?_) (fun h3=>?_)
   ·exact ah rfl (Sub.int (by(unfold qv;exact iF h1 (iF h2 (iT h3)))))
   ·refine br (fun h4=>?_) (fun h4=>?_)
    ·exact ah rfl (Sub.int (by(unfold qv;exact iF h1 (iF h2 (iF h3 (iT h4))))))
    ·refine oP (ai call96 rfl (HR _)) ?_;refine br (fun h5=>?_) (fun h5=>?_)
     ·exact ah rfl (Sub.int (by(unfold qv;exact iF h1 (iF h2 (iF h3 (iF h4 (iT h5)))))))
     ·refine gP (fun hg=>ai call96 rfl (HR _)) ?_;refine br (fun h6=>?_) (fun h6=>?_)
      ·exact ah rfl (Sub.int (by(unfold qv;exact iF h1 (iF h2 (iF h3 (iF h4 (iF h5 (iT h6))))))))
      ·refine oP (bK (n:=3) (rows:=[cj i.fk,cj i.fh,cj i.e_]) underlying116 sizeOf35 rfl rfl rfl zeroValue35 rfl rfl rfl rfl rfl rfl rfl) ?_;refine J.loop (ι:=afm i) (fun sx=>[(1,.box 0 0),(4,.snap 2 true ([i.fk,i.fh,i.e_].map cj)),(5,.i sx.pre.length)]) (fun sx=>[(0,.cells (gA i))]) (fun sx=>sx.rest.length) ⟨[],_,rfl,by unfold qv;exact(iF h1 (iF h2 (iF h3 (iF h4 (iF h5 (iF h6 rfl)))))).symm⟩ ?_ ?_
       ·exact Le.mk rfl (.s rfl rfl (.s rfl rfl (.s rfl rfl .nil))) (.cons rfl rfl .nil)
       ·rintro⟨pre,rest,hx,hp⟩;show J _ _ _ _ [(1,.box 0 0),(4,.snap 2 true ([i.fk,i.fh,i.e_].map cj)),(5,.i pre.length)] [(0,.cells (gA i))];have hl:=congrArg List.length hx;simp only[List.length_append,List.length_cons,List.length_nil]at hl;rcases rest with _|⟨x,rest⟩
        ·skip;refine go [] ?_;refine a_ (by simp at hl⊢;omega) ?_;refine go [] ?_;refine br (fun h7=>?_) (fun h7=>?_)
         ·refine oP (ai call191 rfl (xA _ zA)) ?_;refine gP (fun hg=>ai call191 rfl (xA _ zA)) ?_;refine br (fun h8=>?_) (fun h8=>?_)
          ·exact ah rfl (Sub.int (by exact rV hp (ga h7 (iT h8))))
          ·refine gP (fun hg=>qK (xs:=[i.e_.num,i.e_.den]) (ys:=[[],[]]) underlying35 (by kernel_rfl) (by kernel_rfl) (.cons zK underlying33 isAgg33 rfl (.cons zK underlying33 isAgg33 rfl (.nil _))) rfl rfl rfl rfl rfl rfl) ?_;refine br (fun h9=>?_) (fun h9=>?_)
           ·exact ah rfl (Sub.int (by exact rV hp (ga h7 (iF h8 (iT h9)))))
           ·exact ah rfl (Sub.int (by exact rV hp (ga h7 (iF h8 (iF h9 rfl)))))
         ·refine br (fun ct=>?_) (fun ct=>?_)
          ·refine oP (ai call139 rfl (DI _)) ?_;refine br (fun cI=>?_) (fun cI=>?_)
           ·exact ah rfl (Sub.int (by exact rV hp (iF h7 (ga ct (iT cI)))))
           ·refine oP (ai call191 rfl (xA _ zA)) ?_;refine br (fun dI=>?_) (fun dI=>?_)
            ·exact ah rfl (Sub.int (by exact rV hp (iF h7 (ga ct (iF cI (iT dI))))))
            ·refine oP (qK (xs:=[i.fk.num,i.fk.den]) (ys:=[[],[]]) underlying35 (by kernel_rfl) (by kernel_rfl) (.cons zK underlying33 isAgg33 rfl (.cons zK underlying33 isAgg33 rfl (.nil _))) rfl rfl rfl rfl rfl rfl) ?_;refine gP (fun hg=>qK (xs:=[i.fh.num,i.fh.den]) (ys:=[[],[]]) underlying35 (by kernel_rfl) (by kernel_rfl) (.cons zK underlying33 isAgg33 rfl (.cons zK underlying33 isAgg33 rfl (.nil _))) rfl rfl rfl rfl rfl rfl) ?_;refine br (fun fR=>?_) (fun fR=>?_)
             ·exact ah rfl (Sub.int (by exact rV hp (iF h7 (ga ct (iF cI (iF dI (iT fR)))))))
             ·exact ah rfl (Sub.int (by exact rV hp (iF h7 (ga ct (iF cI (iF dI (iF fR rfl)))))))
          ·refine gP (fun hg=>qK (xs:=[i.e_.num,i.e_.den]) (ys:=[[],[]]) underlying35 (by kernel_rfl) (by kernel_rfl) (.cons zK underlying33 isAgg33 rfl (.cons zK underlying33 isAgg33 rfl (.nil _))) rfl rfl rfl rfl rfl rfl) ?_;refine br (fun mc=>?_) (fun mc=>?_)
           ·exact ah rfl (Sub.int (by exact rV hp (iF h7 (iF ct (iT mc)))))
           ·refine oP (qK (xs:=[i.fk.num,i.fk.den]) (ys:=[[],[]]) underlying35 (by kernel_rfl) (by kernel_rfl) (.cons zK underlying33 isAgg33 rfl (.cons zK underlying33 isAgg33 rfl (.nil _))) rfl rfl rfl rfl rfl rfl) ?_;refine gP (fun hg=>qK (xs:=[i.fh.num,i.fh.den]) (ys:=[[],[]]) underlying35 (by kernel_rfl) (by kernel_rfl) (.cons zK underlying33 isAgg33 rfl (.cons zK underlying33 isAgg33 rfl (.nil _))) rfl rfl rfl rfl rfl rfl) ?_;refine br (fun mW=>?_) (fun mW=>?_)
            ·exact ah rfl (Sub.int (by exact rV hp (iF h7 (iF ct (iF mc (iT mW))))))
            ·exact ah rfl (Sub.int (by exact rV hp (iF h7 (iF ct (iF mc (iF mW rfl))))))
        ·simp only[List.length_cons]at hl;have j7:=K3 hx;refine go [] ?_;refine bk zQ ?_;refine ix zO (aS cj hx rfl) ?_;refine oP (ai call190 rfl (Uk x (by rcases j7 with rfl|rfl|rfl<;>assumption))) ?_;refine br (fun jc=>?_) (fun jc=>?_)
         ·exact ah rfl (Sub.int (by exact ahS hp jc))
         ·refine sd (aw zO) ?_;exact nx ⟨pre++[x],rest,by simp[hx],ahR hp jc⟩ zS (Le.mk rfl (.s rfl rfl (.s rfl rfl (.cons rfl (Sub.int zS) rfl .nil))) (.cons rfl rfl .nil))
theorem Zb(i:aW)(hi:xE i):Fc Tryz.prog 134 [.agg (gA i)] (.i (kc i)):=by
 have:=afl i hi;rwa[afp]at this
structure X9(l:List aW)(t:List bA)where
 pre:List aW
 rest:List aW
 hx:l=pre++rest
 hp:kU l t=rG t pre rest
theorem X8(l:List aW)(t:List bA)(hs:∀x∈l,xE x):Fc Tryz.prog 93 [iW l,fM t] (.i (kU l t)):=by
 refine Fc.mk' [4] func93 rfl ntmps93 rfl rfl rfl (fun t w=>results_tmp results93 t _ w) ?_;refine J.eu 0 rfl (fun hb=>?_);simp only[List.length_map,aG]at hb;refine go [] ?_;refine oP (ai call133 rfl (alP _)) ?_;refine br (fun h1=>?_) (fun h1=>?_)
 ·exact ah rfl (Sub.int (by exact iS h1))
 ·refine br (fun h2=>?_) (fun h2=>?_)
  ·exact ah rfl (Sub.int (by exact cW h1 (iS (by simpa using h2))))
  ·refine J.loop (ι:=X9 l t) (fun sx=>[(0,iW l),(1,fM t),(5,.i sx.pre.length)]) (fun sx=>[]) (fun sx=>sx.rest.length) ⟨[],l,rfl,RZ h1 (by simpa using h2)⟩ ?_ ?_
   ·exact Le.mk rfl (.s rfl rfl (.s rfl rfl (.s rfl rfl .nil))) .nil
   ·rintro⟨pre,rest,hx,hp⟩;show J _ _ _ _ [(0,iW l),(1,fM t),(5,.i pre.length)] [];have hl:=congrArg List.length hx;simp only[List.length_append]at hl;rcases rest with _|⟨x,rest⟩
    ·skip;refine go [] ?_;refine a_ (by simp at hl⊢;omega) ?_;refine go [] ?_;exact ah rfl (Sub.int (by exact hp.symm))
    ·simp only[List.length_cons]at hl;refine go [] ?_;refine bk zQ ?_;refine ix zO (aS gA hx rfl) ?_;refine oP (ai call134 rfl (Zb x (hs x (by rw[hx];simp)))) ?_;refine br (fun h3=>?_) (fun h3=>?_)
     ·exact ah rfl (Sub.int (by exact y4 hp (RN h3) h3))
     ·obtain⟨k,q,hk,hfc⟩:=acz l x.id;refine ix zO (BI hx rfl) ?_;refine oP (ai call113 rfl hfc) ?_;refine br (fun h4=>?_) (fun h4=>?_)
      ·exact ah rfl (Sub.int (by exact y4 hp (RO h3 (by rw[←IL hx,←hk];exact h4)) rfl))
      ·refine ix zO (BI hx rfl) ?_;refine oP (ai call135 rfl (Qx _ _)) ?_;refine my (fun hg=>And.intro zO (BI hx rfl)) ?_;refine my (fun hg=>And.intro zO (BI hx rfl)) ?_;refine gP (fun hg=>ai call135 rfl (Qx _ _)) ?_;refine br (fun h5=>?_) (fun h5=>?_)
       ·exact ah rfl (Sub.int (by exact y4 hp (afq h3 (by rw[←IL hx,←hk];exact h4) h5) rfl))
       ·refine sd (aw zO) ?_;exact nx ⟨pre++[x],rest,by simp[hx],R0 hp (afr h3 (by rw[←IL hx,←hk];exact h4) h5) rfl⟩ zS (Le.mk rfl (.s rfl rfl (.s rfl rfl (.cons rfl (Sub.int zS) rfl .nil))) .nil)
theorem W0(s:Setup)(hs:∀x∈s.insts,xE x):Fc Tryz.prog 52 [.agg (fC s)] (.b (decide (kU s.insts s.oo=0))):=by
 refine Fc.mk' [2] func52 rfl ntmps52 rfl rfl rfl (fun t w=>results_tmp results52 t _ w) ?_;refine go [] ?_;refine oP (ai call93 rfl (X8 s.insts s.oo hs)) ?_;exact ah rfl (Sub.refl _)
theorem I2{gs:List (List aa)}{k:Nat}{n:Int}(h:k<gs.length)(hn:n=(k:Int)):(gs.map (fun v:List aa=>[aL v]))[n.toNat]?=some [aL (gs.getD k [])]:=by
 subst hn;simp[List.getD_eq_getElem?_getD,h]
theorem QN{l:List aa}(h:l≠[]):(l.map fun s=>[D.str s])[(0:Int).toNat]?=some [D.str (l.headD [])]:=by
 cases l with
 |nil=>exact absurd rfl h
 |cons a r=>rfl
theorem P5{gs:List (List aa)}{k:Nat}(h:k<gs.length):gs.getD k []∈gs:=by
 rw[getD_at h];exact List.getElem_mem h
theorem Oh{l:List Fact}{x:Fact}{k:aa}(h:decide (x.key=k)=true):ew (l++[x]) k=ew l k++cC x:=by rw[HS,if_pos (of_decide_eq_true h)]
theorem Of{l:List Fact}{x:Fact}{k:aa}(h:decide (x.key=k)=false):ew (l++[x]) k=ew l k:=by rw[HS,if_neg (by simpa using h)];simp
structure q9(s:Setup)(l:List Fact):Prop where
 insts:s.insts.length≤1000
 facts:l.length≤10
 opts:∀f∈l,f.opts.length≤1000
theorem q9.names{s:Setup}{l:List Fact}(h:q9 s l){l':List Fact}(hl:l'.length≤l.length)(hm:∀f∈l',f∈l)(k:aa):(ew l' k).length≤10020:=by
 have h1:=Og (n:=1002) l' k fun f hf=>by have h2:=wR f;have h3:=h.opts f (hm f hf);omega
 have h2:=h.facts;omega
theorem q9.RY{s:Setup}{l:List Fact}(h:q9 s l){p:List aW}(hl:p.length≤s.insts.length):(ke p).flatten.length≤1000∧(ke p).length≤1000:=by
 have h1:=afw p;have h2:=h.insts;omega
theorem q9.Ph{s:Setup}{l:List Fact}(h:q9 s l){p:List Fact}(hl:p.length≤l.length):(kC l p (ke s.insts)).flatten.length≤200000∧(kC l p (ke s.insts)).length≤200000:=by
 have h1:=h.RY (p:=s.insts) (Nat.le_refl _);have h2:=Pf (n:=10020) (fun k=>h.names (Nat.le_refl _) (fun f hf=>hf) k) p (ke s.insts);have h3:=h.facts;omega
structure aaW(s:Setup)(l:List Fact)where
 kh:List aW
 oV:List aW
 lD:s.insts=kh++oV
structure aaX(s:Setup)(l:List Fact)where
 pre:List Fact
 rest:List Fact
 hx:l=pre++rest
structure aaZ(s:Setup)(l:List Fact)where
 out:List (List aa)
 cur:List (List aa)
 hs:sk (ED s l) out cur
 Jy:∀b∈cur,b≠[]
structure aa0(s:Setup)(l:List Fact)(out cur:List (List aa))where
 k:Nat
 n:Nat
 hk:k<cur.length
 hn:n≤cur.length
 hm:ud cur k n
structure aaY(s:Setup)(l:List Fact)(pre:List Fact)(x:Fact)where
 au:List Fact
 aC:List Fact
 aU:l=au++aC
theorem aaV(s:Setup)(l:List Fact)(hd:q9 s l):Fc Tryz.prog 54 [.agg (fC s),cN l] (sE (lu (i_ s l))):=by
 refine Fc.mk' [4] func54 rfl ntmps54 rfl rfl rfl (fun t w=>results_tmp results54 t _ w) ?_;have hdf:=hd.facts;have uF:=hd.insts;refine go [15,25,26] ?_;refine J.loop (ι:=aaW s l) (fun sx=>[(1,cN l),(2,.box 0 0),(5,cB (ke sx.kh)),(6,.i sx.kh.length)]) (fun sx=>[(0,.cells (fC s))]) (fun sx=>sx.oV.length) ⟨[],_,rfl⟩ ?_ ?_
 ·exact Le.mk rfl (.s rfl rfl (.s rfl rfl (.cons rfl ((Sub.nil _ false).trans (Sub.snap zS)) rfl (.s rfl rfl .nil)))) (.cons rfl rfl .nil)
 ·rintro⟨kh,oV,lD⟩;show J _ _ _ _ [(1,cN l),(2,.box 0 0),(5,cB (ke kh)),(6,.i kh.length)] [(0,.cells (fC s))];have uK:=congrArg List.length lD;simp only[List.length_append]at uK;have hib:=hd.RY (p:=kh) zO;rcases oV with _|⟨x0,oV⟩
  ·obtain rfl:s.insts=kh:=by simpa using lD
   refine go [15,25,26] ?_;refine a_ zS ?_;refine go [15,25,26] ?_;refine J.loop (ι:=aaX s l) (fun sx=>[(1,cN l),(2,.box 0 0),(5,cB (kC l sx.pre (ke s.insts))),(7,.i sx.pre.length)]) (fun sx=>[(0,.cells (fC s))]) (fun sx=>sx.rest.length) ⟨[],l,rfl⟩ ?_ ?_
   ·exact Le.mk rfl (.s rfl rfl (.s rfl rfl (.cons rfl (Sub.refl _) rfl (.s rfl rfl .nil)))) (.cons rfl rfl .nil)
   ·rintro⟨pre,rest,hx⟩;show J _ _ _ _ [(1,cN l),(2,.box 0 0),(5,cB (kC l pre (ke s.insts))),(7,.i pre.length)] [(0,.cells (fC s))];have hl:=congrArg List.length hx;simp only[List.length_append]at hl;have hfb:=hd.Ph (p:=pre) zO;rcases rest with _|⟨x,rest⟩
    ·obtain rfl:l=pre:=by simpa using hx
     refine go [15,25,26] ?_;refine a_ zS ?_;refine go [15,25,26] ?_;refine oW (Gh (n:=1) (rows:=[[.raw (.slice none 0 0)]]) 2 underlying43 sizeOf48 rfl rfl rfl zeroValue48 rfl rfl rfl rfl rfl rfl rfl rfl) ?_;refine J.loop (ι:=aaZ s l) (fun sx=>[(5,cB sx.cur),(10,.gs 2 (sx.out.length+1))]) (fun sx=>[(2,.arr 1 ([.raw (.slice none 0 0)]::sx.out.map (fun v:List aa=>[aL v])))]) (fun sx=>sx.cur.length) ⟨[],_,V4 _,V5 (V4 _) (Je s l)⟩ ?_ ?_
     ·exact Le.mk rfl (.cons rfl (Sub.refl _) rfl (.cons rfl (Sub.gs zS) rfl .nil)) (.arr rfl (by rfl) .nil)
     ·rintro⟨out,cur,hs,Jy⟩;show J _ _ _ _ [(5,cB cur),(10,.gs 2 (out.length+1))] [(2,.arr 1 ([.raw (.slice none 0 0)]::out.map (fun v:List aa=>[aL v])))];have yU:=ak0 hs;have cK:(ED s l).length≤200000:=(hd.Ph (p:=l) (Nat.le_refl _)).2;rcases Nat.eq_zero_or_pos cur.length with EI|EI
      ·obtain rfl:=List.length_eq_zero_iff.1 EI;refine go [15,25,26] ?_;refine a_ zS ?_;refine go [15,25,26] ?_;refine J.bE (Le.freeze 10 2 rfl rfl zS) ?_;refine go [15,25] ?_;exact ah rfl (Sub.snap (by(have e9:=akZ hs;have e8:=(List.cons.inj e9).2;rw[←e8])))
      ·skip;refine go [15,25,26] ?_;refine bk zQ ?_;refine J.loop (ι:=aa0 s l out cur) (fun sx=>[(5,cB cur),(10,.gs 2 (out.length+1)),(11,.i sx.k),(12,.i sx.n)]) (fun sx=>[(2,.arr 1 ([.raw (.slice none 0 0)]::out.map (fun v:List aa=>[aL v])))]) (fun sx=>cur.length-sx.n) ⟨0,1,EI,EI,agI cur⟩ ?_ ?_
       ·exact Le.mk rfl (.s rfl rfl (.cons rfl (Sub.gs zS) rfl (.s rfl rfl (.s rfl rfl .nil)))) (.arr rfl zS .nil)
       ·rintro⟨k,n,hk,hn,hm⟩;show J _ _ _ _ [(5,cB cur),(10,.gs 2 (out.length+1)),(11,.i k),(12,.i n)] [(2,.arr 1 ([.raw (.slice none 0 0)]::out.map (fun v:List aa=>[aL v])))];rcases Nat.lt_or_ge n cur.length with Bb|Bb
        ·skip;refine go [15,25,26] ?_;refine bk zQ ?_;refine ix zO (I2 (k:=n) zO rfl) ?_;refine ix zD (QN (Jy _ (P5 zO))) ?_;refine ix zO (I2 (k:=k) zO rfl) ?_;refine ix zD (QN (Jy _ (P5 zO))) ?_;refine ord ?_;refine br (fun h1=>?_) (fun h1=>?_)
         ·refine sd (aw zO) ?_;exact nx ⟨n,n+1,by omega,by omega,agK hm h1⟩ (by show cur.length-(n+1)<cur.length-n;omega) (Le.mk rfl (.s rfl rfl (.cons rfl (Sub.gs zS) rfl (.s rfl rfl (.s rfl rfl .nil)))) (.arr rfl zS .nil))
         ·refine sd (aw zO) ?_;exact nx ⟨k,n+1,hk,by omega,agJ hm h1⟩ (by show cur.length-(n+1)<cur.length-n;omega) (Le.mk rfl (.s rfl rfl (.cons rfl (Sub.gs zS) rfl (.s rfl rfl (.s rfl rfl .nil)))) (.arr rfl zS .nil))
        ·skip;refine go [15,25,26] ?_;refine a_ zQ ?_;refine go [15,25,26] ?_;refine ix zO (I2 (k:=k) zO rfl) ?_;refine oP (bK (n:=1) (rows:=[[aL (cur.getD k [])]]) underlying43 sizeOf48 rfl rfl rfl zeroValue48 rfl rfl rfl rfl rfl rfl rfl) ?_;refine oW (fq 3 underlying43 underlying43 sizeOf48 typeInfo48 zeroValue48 rfl (bt:=24) rfl rfl rfl rfl zS rfl rfl zQ) ?_;refine go [15,26] ?_;refine oP (tL underlying43 sizeOf48) ?_;refine oP (oT underlying43 sizeOf48 rfl (l:=0) (h:=k) (r:=(cur.take k).map (fun v:List aa=>[aL v])) (.inl ⟨rfl,rfl⟩) (.inr ⟨_,_,rfl,rfl⟩) zO zQ (by simp[List.map_take])) ?_;refine oW (aq.jy 4 1 (t:=93) rfl (Sub.yA _ _) (fq 5 underlying43 underlying43 sizeOf48 typeInfo48 zeroValue48 rfl (bt:=24) rfl rfl rfl rfl rfl rfl rfl zQ)) ?_;refine sd (aw zO) ?_;refine oP (oT underlying43 sizeOf48 rfl (l:=k+1) (h:=cur.length) (r:=(cur.drop (k+1)).map (fun v:List aa=>[aL v])) (.inr ⟨_,_,rfl,tw rfl zS⟩) (.inl ⟨rfl,by simp⟩) zO zS (by rw[List.take_of_length_le zS];simp[List.map_drop])) ?_;refine oW (fq 6 underlying43 underlying43 sizeOf48 typeInfo48 zeroValue48 rfl (bt:=24) rfl rfl rfl rfl zS rfl rfl zQ) ?_;refine ord ?_;refine J.nil (cZ ?_);exact⟨⟨out++[cur.getD k []],(cur.take k++cur.drop (k+1)),V6 hs hk (by have e9:n=cur.length:=zO;subst e9;exact hm),V5 (V6 hs hk (by have e9:n=cur.length:=zO;subst e9;exact hm)) (Je s l)⟩,by simp;omega,(Le.freeze 5 6 rfl rfl zS).trans<|(Le.mk (am:=[(3,_)]) rfl (show dE _ _ [(5,_),(10,_)]from(.s rfl rfl (.s rfl rfl .nil))) (.cons (i:=3) rfl rfl .nil)).trans<|(Le.kO 10 3 2 rfl rfl zS rfl).trans<|Le.mk rfl (.cons rfl (Sub.snap zS) rfl (.cons rfl (Sub.gs zS) rfl .nil)) (.arr rfl zS .nil)⟩
    ·simp only[List.length_cons]at hl;refine go [15,25,26] ?_;refine bk zQ ?_;refine J.loop (ι:=aaY s l pre x) (fun sx=>[(1,cN l),(2,.box 0 0),(5,cB (kC l pre (ke s.insts))),(7,.i pre.length),(8,.gs 1 (ew sx.au x.key).length),(9,.i sx.au.length)]) (fun sx=>[(0,.cells (fC s)),(1,.arr 1 (cM (ew sx.au x.key)))]) (fun sx=>sx.aC.length) ⟨[],l,rfl⟩ ?_ ?_
     ·exact(Le.jy 1 1).trans<|Le.mk rfl (.s rfl rfl (.s rfl rfl (.s rfl rfl (.s rfl rfl (.cons rfl (Sub.wm _) rfl (.s rfl rfl .nil)))))) (.cons rfl rfl (.arr rfl (by rfl) .nil))
     ·rintro⟨au,aC,aU⟩;show J _ _ _ _ [(1,cN l),(2,.box 0 0),(5,cB (kC l pre (ke s.insts))),(7,.i pre.length),(8,.gs 1 (ew au x.key).length),(9,.i au.length)] [(0,.cells (fC s)),(1,.arr 1 (cM (ew au x.key)))];have bN:=congrArg List.length aU;simp only[List.length_append]at bN;have cP:=hd.names (l':=au) zO (fun f hf=>by rw[aU];simp[hf]) x.key;rcases aC with _|⟨y,aC⟩
      ·obtain rfl:l=au:=by simpa using aU
       refine go [15,25,26] ?_;refine a_ zS ?_;refine go [15,25,26] ?_;refine J.bE (Le.freeze 8 1 rfl rfl zS) ?_;refine go [25,26] ?_;refine oP (ai call100 rfl (R4 (kC l pre (ke s.insts)) (ew l x.key) zO zO zO)) ?_;refine go [15,25,26] ?_;refine sd (aw zO) ?_;exact nx ⟨pre++[x],rest,by simp[hx]⟩ zS (Le.mk rfl (.s rfl rfl (.s rfl rfl (.cons rfl (Sub.snap (by rw[ab9])) rfl (.cons rfl (Sub.int zS) rfl .nil)))) (.cons rfl rfl .nil))
      ·simp only[List.length_cons]at bN;have ET:=wR y;have s4:=hd.opts y (by rw[aU];simp);refine go [15,25,26] ?_;refine bk zQ ?_;refine ix zO (RF aU rfl) ?_;refine ix zO (RF hx rfl) ?_;refine ord ?_;refine br (fun h2=>?_) (fun h2=>?_)
       ·refine ix zO (aS aX aU rfl) ?_;refine oP (ai call101 rfl (T3 y (by have:=hd.opts y (by rw[aU];simp);omega))) ?_;refine oW (fq 2 underlying48 underlying48 sizeOf9 typeInfo9 zeroValue9 rfl (bt:=16) rfl rfl rfl rfl zS rfl rfl (by have h9:=cP;simp at h9⊢;omega)) ?_;refine sd (aw zO) ?_;exact nx ⟨au++[y],aC,by simp[aU]⟩ zS ((Le.mk (am:=[(0,_),(2,_)]) rfl (show dE _ _ [(1,_),(2,_),(5,_),(7,_),(8,_),(9,_)]from(.s rfl rfl (.s rfl rfl (.s rfl rfl (.s rfl rfl (.s rfl rfl (.s rfl rfl .nil))))))) (.cons (i:=0) rfl rfl (.cons (i:=2) rfl rfl .nil))).trans<|(Le.kO 8 2 1 rfl rfl zS rfl).trans<|Le.mk rfl (.s rfl rfl (.s rfl rfl (.s rfl rfl (.s rfl rfl (.cons rfl (Sub.gs (by rw[Oh zA];simp)) rfl (.cons rfl (Sub.int zS) rfl .nil)))))) (.cons rfl rfl (.arr rfl (by rw[Oh zA];simp[cM]) .nil)))
       ·refine sd (aw zO) ?_;exact nx ⟨au++[y],aC,by simp[aU]⟩ zS (Le.mk rfl (.s rfl rfl (.s rfl rfl (.s rfl rfl (.s rfl rfl (.cons rfl (Sub.gs (by rw[Of zA])) rfl (.cons rfl (Sub.int zS) rfl .nil)))))) (.cons rfl rfl (.arr rfl (by rw[Of zA]) .nil)))
  ·simp only[List.length_cons]at uK;refine go [15,25,26] ?_;refine bk zQ ?_;refine ix zO (BI lD rfl) ?_;refine oP (p6 underlying48 sizeOf9 zeroValue9 rfl rfl rfl rfl rfl) ?_;refine oP (ai call100 rfl (R4 (ke kh) [x0.id] zO zO zS).sub) ?_;refine sd (aw zO) ?_;exact nx ⟨kh++[x0],oV,by simp[lD]⟩ zS (Le.mk rfl (.s rfl rfl (.s rfl rfl (.cons rfl (Sub.snap (by rw[afx])) rfl (.cons rfl (Sub.int zS) rfl .nil)))) (.cons rfl rfl .nil))
end Go.T
namespace Go.T
open Go
variable[bX] {P:Program} {dst:Option Tmp} {ty:TypeId} {pos:String} {ar:Array Edge} {g:Option (Nat×Bool)} {env:Env}
theorem ajB{f:FuncId}{xs:List Operand}{tys:Array TypeId}{ds:List D}{id sz n:Nat}{rows:List (List D)}{b:Bool}{U:ae}
  (fc:∀(args:Array Value)(w:World),(callFunc f args).run P w=.ok (.enter f args) w)(hx:env.kg xs=some (.gs id n::ds))(hf:Fc P f (.snap sz false rows::ds) (.b b))(ho:U.get id=some (.arr sz rows))(hn:rows.length=n):
  aq P ⟨dst,.call ⟨.value (.func f),xs.toArray,tys⟩,ty,pos,ar,g⟩ env U (.b b) U:=by
 intro O ρ a w aj cK hv;have j6:=tA xs _ hx (fun x hx d' h=>hv x (by simp[Op.operands,Call.operands,hx]) d' h);have fd:(execOp a.eval ⟨dst,.call ⟨.value (.func f),xs.toArray,tys⟩,ty,pos,ar,g⟩).run P w=.ok (.enter f (xs.map a.eval).toArray) w:=by
  have h1:execOp a.eval ⟨dst,.call ⟨.value (.func f),xs.toArray,tys⟩,ty,pos,ar,g⟩=callFunc f (xs.map a.eval).toArray:=by
   simp[execOp,resolve,Deferred.ofValue,Act.eval,invoke,Bind.bind,Sem.bind,Pure.pure]
  rw[h1,fc]
 have bg:=Tr.die id aj;unfold Oper.wp;rw[fd];simp only[Oper.upon];simp only[Vs]at j6;obtain⟨u,us,e,h1,h2⟩:=j6;refine Calls.mono (hf.out w (Ot O ρ (U.set id .dead)) ρ (xs.map a.eval) ?_ (cK.mono bg.kept) ?_) ?_
 ·rintro b (hb|⟨i,o,l,h1,h2,h3,h4⟩)
  ·exact aj.lt b hb
  ·obtain⟨l',h5,_,h6⟩:=bg.ok.own i o h1 h2;rw[h3]at h5;cases h5;exact h4▸h6.lt h2
 ·rw[e];simp only[Vs];exact⟨u,us,rfl,Jg aj ho hn h1,Vs.mono bg.kept (bI.refl _) ds us h2⟩
 ·rintro e w' ⟨v,rfl,h1,h2⟩;exact⟨ρ,v,rfl,Tr.oK h2 aj,by simpa[V]using h1⟩
end Go.T
namespace Go.T
open Go Go.Proofs Go.Proofs.Tryz
set_option maxRecDepth 20000
theorem Xr{s:Setup}{l:List Fact}(h:(!decide (kU s.insts s.oo=0))=true):iX s l=true:=by
 cases k:iX s l with
 |true=>rfl
 |false=>have:=(Xq k).1;rw[this]at h;cases h
theorem Xt{s:Setup}{l pre rest:List Fact}{x:Fact}(hx:l=pre++x::rest)(h:decide (gJ x≠0)=true):iX s l=true:=by
 cases k:iX s l with
 |true=>rfl
 |false=>have:=(Xq k).2 x (by rw[hx];simp);rw[this]at h;cases h
theorem Xu{s:Setup}{l:List Fact}(h:(!decide (kU s.insts s.oo=0))=false)(h2:l.any (fun f=>decide (gJ f≠0))=false):iX s l=false:=by
 have e:decide (kU s.insts s.oo=0)=true:=by simpa using h
 unfold iX;rw[e];simpa using h2
structure adE(s:Setup)(l:List Fact)where
 pre:List Fact
 rest:List Fact
 hx:l=pre++rest
 hp:pre.any (fun f=>decide (gJ f≠0))=false
theorem adD(s:Setup)(l:List Fact)(hs:∀x∈s.insts,xE x)(hf:∀f∈l,sL f)(hd:q9 s l)(hw:iX s l=false):Fc Tryz.prog 21 [.agg (fC s),cN l] (.bj [sE (lu (i_ s l)),.i 0]):=by
 refine Fc.mk' [4,5] func21 rfl ntmps21 rfl rfl rfl (fun t w=>results_tmp2 results21 t _ w) ?_;refine J.eu 1 rfl (fun hb=>?_);simp only[List.length_map,aG]at hb;refine go [] ?_;refine oP (ai call52 rfl (W0 _ zA)) ?_;refine br (fun h1=>?_) (fun h1=>?_)
 ·exact fu rfl rfl (by exact absurd (Xr (l:=l) h1) (by rw[hw];simp)) (Sub.int (by exact absurd (Xr (l:=l) h1) (by rw[hw];simp)))
 ·refine J.loop (ι:=adE s l) (fun sx=>[(1,cN l),(2,.box 0 0),(6,.i sx.pre.length)]) (fun sx=>[(0,.cells (fC s))]) (fun sx=>sx.rest.length) ⟨[],l,rfl,rfl⟩ ?_ ?_
  ·exact Le.mk rfl (.s rfl rfl (.s rfl rfl (.s rfl rfl .nil))) (.cons rfl rfl .nil)
  ·rintro⟨pre,rest,hx,hp⟩;show J _ _ _ _ [(1,cN l),(2,.box 0 0),(6,.i pre.length)] [(0,.cells (fC s))];have hl:=congrArg List.length hx;simp only[List.length_append]at hl;rcases rest with _|⟨x,rest⟩
   ·skip;refine go [] ?_;refine a_ (by simp at hl⊢;omega) ?_;refine go [] ?_;refine oP (ai call54 rfl (aaV s l hd)) ?_;exact fu rfl rfl (Sub.refl _) (Sub.refl _)
   ·simp only[List.length_cons]at hl;refine go [] ?_;refine bk zQ ?_;refine ix zO (aS aX hx rfl) ?_;refine oP (ai call53 rfl (HI x (hf x (by rw[hx];simp)))) ?_;refine br (fun h2=>?_) (fun h2=>?_)
    ·exact fu rfl rfl (by exact absurd (Xt (s:=s) hx h2) (by rw[hw];simp)) (Sub.int (by exact absurd (Xt (s:=s) hx h2) (by rw[hw];simp)))
    ·refine sd (aw zO) ?_;exact nx ⟨pre++[x],rest,by simp[hx],iZ hp h2⟩ zS (Le.mk rfl (.s rfl rfl (.s rfl rfl (.cons rfl (Sub.int zS) rfl .nil))) (.cons rfl rfl .nil))
structure adC(s:Setup)(l:List Fact)where
 pre:List Fact
 rest:List Fact
 hx:l=pre++rest
 hp:pre.any (fun f=>decide (gJ f≠0))=false
theorem adB(s:Setup)(l:List Fact)(hs:∀x∈s.insts,xE x)(hf:∀f∈l,sL f)(hd:q9 s l)(hw:iX s l=true):Fc Tryz.prog 21 [.agg (fC s),cN l] (.bj [.raw (.slice none 0 0),.i 1]):=by
 refine Fc.mk' [4,5] func21 rfl ntmps21 rfl rfl rfl (fun t w=>results_tmp2 results21 t _ w) ?_;refine J.eu 1 rfl (fun hb=>?_);simp only[List.length_map,aG]at hb;refine go [] ?_;refine oP (ai call52 rfl (W0 _ zA)) ?_;refine br (fun h1=>?_) (fun h1=>?_)
 ·exact fu rfl rfl (by exact Sub.refl _) (Sub.refl _)
 ·refine J.loop (ι:=adC s l) (fun sx=>[(1,cN l),(2,.box 0 0),(6,.i sx.pre.length)]) (fun sx=>[(0,.cells (fC s))]) (fun sx=>sx.rest.length) ⟨[],l,rfl,rfl⟩ ?_ ?_
  ·exact Le.mk rfl (.s rfl rfl (.s rfl rfl (.s rfl rfl .nil))) (.cons rfl rfl .nil)
  ·rintro⟨pre,rest,hx,hp⟩;show J _ _ _ _ [(1,cN l),(2,.box 0 0),(6,.i pre.length)] [(0,.cells (fC s))];have hl:=congrArg List.length hx;simp only[List.length_append]at hl;rcases rest with _|⟨x,rest⟩
   ·skip;refine go [] ?_;refine a_ (by simp at hl⊢;omega) ?_;refine go [] ?_;refine oP (ai call54 rfl (show Fc Tryz.prog 54 [.agg (fC s),cN l] (.raw (.slice none 0 0)) by exact absurd (Xu h1 (mO hx hp)) (by rw[hw];simp))) ?_;exact fu rfl rfl (by exact Sub.refl _) (Sub.int (by exact absurd (Xu h1 (mO hx hp)) (by rw[hw];simp)))
   ·simp only[List.length_cons]at hl;refine go [] ?_;refine bk zQ ?_;refine ix zO (aS aX hx rfl) ?_;refine oP (ai call53 rfl (HI x (hf x (by rw[hx];simp)))) ?_;refine br (fun h2=>?_) (fun h2=>?_)
    ·exact fu rfl rfl (by exact Sub.refl _) (Sub.refl _)
    ·refine sd (aw zO) ?_;exact nx ⟨pre++[x],rest,by simp[hx],iZ hp h2⟩ zS (Le.mk rfl (.s rfl rfl (.s rfl rfl (.cons rfl (Sub.int zS) rfl .nil))) (.cons rfl rfl .nil))
theorem sC{gs pre rest:List (List aa)}{x:List aa}(hx:gs.drop 1=pre++x::rest):(gs.map (fun v:List aa=>[aL v]))[((pre.length:Int)+1).toNat]?=some [aL x]:=by
 cases gs with
 |nil=>simp at hx
 |cons a r=>
  have hx:r=pre++x::rest:=hx;rw[hx,show((pre.length:Int)+1).toNat=pre.length+1 by omega];simp
structure Yf(gs:List (List aa))where
 pre:List (List aa)
 rest:List (List aa)
 hx:gs.drop 1=pre++rest
 hp:n_ gs=nR pre.flatten rest
structure Yg(gs:List (List aa))(pre:List (List aa))(x:List aa)where
 au:List aa
 aC:List aa
 aU:x=au++aC
 hq:j_ pre.flatten [] x=j_ pre.flatten au aC
 ha:ia au
theorem Ye(gs:List (List aa))(hg:gs.flatten.length≤100000):Fc Tryz.prog 57 [cB gs] (.b (n_ gs)):=by
 refine Fc.mk' [2] func57 rfl ntmps57 rfl rfl rfl (fun t w=>results_tmp results57 t _ w) ?_;refine J.eu 0 rfl (fun hb=>?_);simp only[List.length_map,aG]at hb;refine go [] ?_;refine my (fun hg=>And.intro zD (QL (List.length_pos_iff.2 (by simpa[pa]using hg)))) ?_;refine br (fun h1=>?_) (fun h1=>?_)
 ·exact ah rfl (Sub.bool (by exact WX (by simpa[cM]using h1)))
 ·have hld:(gs.drop 1).length=gs.length-1:=List.length_drop;have QX:gs.length≠0:=by intro e;rw[Bool.or_eq_false_iff]at h1;have h9:=h1.1;simp[e]at h9
  refine J.loop (ι:=Yf gs) (fun sx=>[(0,cB gs),(3,.gs 0 sx.pre.flatten.length),(4,.i ((sx.pre.length:Int)+1))]) (fun sx=>[(0,.arr 1 (cM sx.pre.flatten))]) (fun sx=>sx.rest.length) ⟨[],_,rfl,WT (by simpa[cM]using h1)⟩ ?_ ?_
  ·exact(Le.jy 0 1).trans<|Le.mk rfl (.s rfl rfl (.cons rfl (Sub.wm _) rfl (.s rfl rfl .nil))) (.arr rfl (by rfl) .nil)
  ·rintro⟨pre,rest,hx,hp⟩;show J _ _ _ _ [(0,cB gs),(3,.gs 0 pre.flatten.length),(4,.i ((pre.length:Int)+1))] [(0,.arr 1 (cM pre.flatten))];have hl:=congrArg List.length hx;simp only[List.length_append]at hl;rcases rest with _|⟨x,rest⟩
   ·skip;refine go [] ?_;refine a_ (by simp at hl⊢;omega) ?_;refine go [] ?_;exact ah rfl (Sub.bool (by exact hp.symm))
   ·simp only[List.length_cons]at hl;have iC:gs.flatten.length≥pre.flatten.length+x.length:=by have e9:(gs.drop 1).flatten.length≤gs.flatten.length:=(PK (List.drop_sublist 1 gs)).length_le;rw[hx]at e9;simp at e9⊢;omega
    refine go [] ?_;refine bk zQ ?_;refine ix zO (sC hx) ?_;refine br (fun h2=>?_) (fun h2=>?_)
    ·exact ah rfl (Sub.bool (by exact WU hp (by simpa[cM]using h2)))
    ·have lD:decide ((x.length:Int)=0)=false:=by simpa[cM]using h2
     refine J.loop (ι:=Yg gs pre x) (fun sx=>[(0,cB gs),(3,.gs 0 pre.flatten.length),(4,.i ((pre.length:Int)+1)),(5,.i sx.au.length)]) (fun sx=>[(0,.arr 1 (cM pre.flatten))]) (fun sx=>sx.aC.length) ⟨[],x,rfl,rfl,Hp⟩ ?_ ?_
     ·exact Le.mk rfl (.s rfl rfl (.cons rfl (Sub.gs zS) rfl (.s rfl rfl (.s rfl rfl .nil)))) (.arr rfl zS .nil)
     ·rintro⟨au,aC,aU,hq,ha⟩;show J _ _ _ _ [(0,cB gs),(3,.gs 0 pre.flatten.length),(4,.i ((pre.length:Int)+1)),(5,.i au.length)] [(0,.arr 1 (cM pre.flatten))];have bN:=congrArg List.length aU;simp only[List.length_append]at bN;rcases aC with _|⟨x2,aC⟩
      ·have J_:j_ pre.flatten [] x=true:=hq;refine go [] ?_;refine ix zO (sC hx) ?_;refine a_ (by simp at bN⊢;omega) ?_;refine go [] ?_;refine ix zO (sC hx) ?_;refine oW (fq 1 underlying48 underlying48 sizeOf9 typeInfo9 zeroValue9 rfl (bt:=16) rfl rfl rfl rfl (by simp only[cM,List.length_append,List.length_map]) rfl rfl (by simp only[cM,List.length_map];omega)) ?_;refine go [] ?_;refine sd (aw zO) ?_;exact nx ⟨pre++[x],rest,by simp[hx],by rw[List.flatten_append];simpa using WW hp lD J_⟩ zS ((Le.mk (am:=[(1,_)]) rfl (show dE _ _ [(0,_),(3,_),(4,_)]from(.s rfl rfl (.s rfl rfl (.s rfl rfl .nil)))) (.cons (i:=1) rfl rfl .nil)).trans<|(Le.kO 3 1 0 rfl rfl (by simp only[cM,List.length_append,List.length_map]) rfl).trans<|Le.mk rfl (.s rfl rfl (.cons rfl (Sub.gs zS) rfl (.cons rfl (Sub.int zS) rfl .nil))) (.arr rfl (by simp[cM]) .nil))
      ·simp only[List.length_cons]at bN;refine go [] ?_;refine ix zO (sC hx) ?_;refine bk zQ ?_;refine ix zO (sC hx) ?_;refine ix zO (aS (fun s=>[D.str s]) aU rfl) ?_;refine oP (ai call94 rfl (w8 _)) ?_;refine my (fun hg=>And.intro zO (sC hx)) ?_;refine my (fun hg=>And.intro zO (aS (fun s=>[D.str s]) aU rfl)) ?_;refine my (fun hg=>And.intro zO (sC hx)) ?_;refine sdG (fun hg=>en zO zO) ?_;refine my (fun hg=>And.intro (by have wE:=hg;simp[pa]at wE;omega) (E7 (fun s=>[D.str s]) aU (by have wE:=hg;simp[pa]at wE;omega) rfl)) ?_;refine my (fun hg=>And.intro zO (sC hx)) ?_;refine my (fun hg=>And.intro zO (aS (fun s=>[D.str s]) aU rfl)) ?_;refine gR (fun hg=>ajB call73 rfl (Jt pre.flatten x2) rfl (by simp only[cM,List.length_map])) ?_;refine ord ?_;refine br (fun h3=>?_) (fun h3=>?_)
       ·exact ah rfl (Sub.bool (by exact WV hp lD (ae1 ha hq h3)))
       ·refine sd (aw zO) ?_;exact nx ⟨au++[x2],aC,by simp[aU],ae0 ha hq h3,Yq ha h3⟩ zS (Le.mk rfl (.s rfl rfl (.cons rfl (Sub.gs zS) rfl (.s rfl rfl (.cons rfl (Sub.int zS) rfl .nil)))) (.arr rfl zS .nil))
structure anU(tl:List (List aa))(f:Fact)where
 pre:List aa
 rest:List aa
 a:Int
 m:Bool
 hx:(cC f)=pre++rest
 hw:vO (oN tl) pre a m
structure anV(tl:List (List aa))(f:Fact)(pre:List aa)(x:aa)(a:Int)(m:Bool)where
 au:List (List aa)
 aC:List (List aa)
 aU:tl=au++aC
theorem anT(tl:List (List aa))(f:Fact)(hn:tl.flatten.Nodup)(ho:f.opts.length≤100000):Fc Tryz.prog 58 [cB ([]::tl),.agg (aX f)] (.bj [.i (jf ([]::tl) (cC f)).1,.i (jf ([]::tl) (cC f)).2]):=by
 refine Fc.mk' [4,5] func58 rfl ntmps58 rfl rfl rfl (fun t w=>results_tmp2 results58 t _ w) ?_;refine J.eu 0 rfl (fun hb=>?_);simp only[List.length_map,aG]at hb;simp only[List.length_cons]at hb;have ET:=wR f;refine go [] ?_;refine oP (ai call101 rfl (T3 f ho)) ?_;refine J.loop (ι:=anU tl f) (fun sx=>[(0,cB ([]::tl)),(3,.box 0 0),(6,aL (cC f)),(7,.i sx.a),(8,.b sx.m),(9,.i sx.pre.length)]) (fun sx=>[(0,.cells (aX f))]) (fun sx=>sx.rest.length) ⟨[],_,0,false,rfl,anZ _⟩ ?_ ?_
 ·exact Le.mk rfl (.s rfl rfl (.s rfl rfl (.s rfl rfl (.s rfl rfl (.s rfl rfl (.s rfl rfl .nil)))))) (.cons rfl rfl .nil)
 ·rintro⟨pre,rest,a,m,hx,hw⟩;show J _ _ _ _ [(0,cB ([]::tl)),(3,.box 0 0),(6,aL (cC f)),(7,.i a),(8,.b m),(9,.i pre.length)] [(0,.cells (aX f))];have hl:=congrArg List.length hx;simp only[List.length_append]at hl;rcases rest with _|⟨x,rest⟩
  ·have hx9:pre=(cC f):=by simpa using hx.symm
   rw[hx9]at hw;refine go [] ?_;refine a_ (by simp at hl⊢;omega) ?_;refine go [] ?_;refine br (fun h1=>?_) (fun h1=>?_)
   ·exact fu rfl rfl (Sub.int (by subst h1;rw[Xj hn hw])) (Sub.int (by subst h1;rw[Xj hn hw]))
   ·exact fu rfl rfl (Sub.int (by subst h1;rw[Xi hn hw])) (Sub.int (by subst h1;rw[Xi hn hw]))
  ·simp only[List.length_cons]at hl;refine go [] ?_;refine bk zQ ?_;refine J.loop (ι:=anV tl f pre x a m) (fun sx=>[(0,cB ([]::tl)),(3,.box 0 0),(6,aL (cC f)),(7,.i a),(8,.b m),(9,.i pre.length),(10,.i (oN sx.au x)),(11,.i ((sx.au.length:Int)+1))]) (fun sx=>[(0,.cells (aX f))]) (fun sx=>sx.aC.length) ⟨[],tl,rfl⟩ ?_ ?_
   ·exact Le.mk rfl (.s rfl rfl (.s rfl rfl (.s rfl rfl (.s rfl rfl (.s rfl rfl (.s rfl rfl (.s rfl rfl (.s rfl rfl .nil)))))))) (.cons rfl rfl .nil)
   ·rintro⟨au,aC,aU⟩;show J _ _ _ _ [(0,cB ([]::tl)),(3,.box 0 0),(6,aL (cC f)),(7,.i a),(8,.b m),(9,.i pre.length),(10,.i (oN au x)),(11,.i ((au.length:Int)+1))] [(0,.cells (aX f))];have bN:=congrArg List.length aU;simp only[List.length_append]at bN;rcases aC with _|⟨x2,aC⟩
    ·obtain rfl:tl=au:=by simpa using aU
     refine go [] ?_;refine a_ zS ?_;refine go [] ?_;refine br (fun h2=>?_) (fun h2=>?_)
     ·exact fu rfl rfl (Sub.int (by rw[Xk hn hx (by simpa using h2)])) (Sub.int (by rw[Xk hn hx (by simpa using h2)]))
     ·refine go [] ?_;refine sd (aw zO) ?_;exact nx ⟨pre++[x],rest,oN tl x,_,by simp[hx],an0 hw (by simpa using h2)⟩ zS (Le.mk rfl (.s rfl rfl (.s rfl rfl (.s rfl rfl (.s rfl rfl (.s rfl rfl (.cons rfl (Sub.int zS) rfl .nil)))))) (.cons rfl rfl .nil))
    ·simp only[List.length_cons]at bN;refine go [] ?_;refine bk zQ ?_;refine ix zO (sC (gs:=[]::tl) aU) ?_;refine ix zO (aS (fun s=>[D.str s]) hx rfl) ?_;refine oP (ai call73 rfl (Jt _ _)) ?_;refine ord ?_;refine br (fun h3=>?_) (fun h3=>?_)
     ·refine sd (aw zO) ?_;exact nx ⟨au++[x2],aC,by simp[aU]⟩ zS (Le.mk rfl (.s rfl rfl (.s rfl rfl (.s rfl rfl (.s rfl rfl (.s rfl rfl (.s rfl rfl (.cons rfl (Sub.int (by(show _=(jg x (au++[x2])).2;rw[Cp,if_pos h3];done))) rfl (.cons rfl (Sub.int zS) rfl .nil)))))))) (.cons rfl rfl .nil))
     ·refine sd (aw zO) ?_;exact nx ⟨au++[x2],aC,by simp[aU]⟩ zS (Le.mk rfl (.s rfl rfl (.s rfl rfl (.s rfl rfl (.s rfl rfl (.s rfl rfl (.s rfl rfl (.cons rfl (Sub.int (by(show _=(jg x (au++[x2])).2;rw[Cp,if_neg (by rw[h3];simp)];done))) rfl (.cons rfl (Sub.int zS) rfl .nil)))))))) (.cons rfl rfl .nil))
def vb(gs:List (List aa))(f:Fact):Int×Int:=if(!n_ gs||decide (gJ f≠0))=true then(0,1)else jf gs (cC f)
theorem FZ{gs:List (List aa)}{f:Fact}(h:(!n_ gs||decide (gJ f≠0))=true):vb gs f=(0,1):=by unfold vb;rw[if_pos h]
theorem FY{gs:List (List aa)}{f:Fact}(h:(!n_ gs||decide (gJ f≠0))=false):vb gs f=jf gs (cC f):=by unfold vb;rw[if_neg (by rw[h];simp)]
theorem anY(gs:List (List aa))(f:Fact)(ho:f.opts.length≤100000)(h:(!n_ gs||decide (gJ f≠0))=false):Fc Tryz.prog 58 [cB gs,.agg (aX f)] (.bj [.i (jf gs (cC f)).1,.i (jf gs (cC f)).2]):=by
 rw[Bool.or_eq_false_iff]at h;obtain⟨tl,rfl,hn⟩:=anJ (by simpa using h.1);exact anT tl f hn ho
theorem Un(gs:List (List aa))(f:Fact)(hg:gs.flatten.length≤100000)(ho:f.opts.length≤100000)(hf:sL f):Fc Tryz.prog 23 [cB gs,.agg (aX f)] (.bj [.i (vb gs f).1,.i (vb gs f).2]):=by
 refine Fc.mk' [4,5] func23 rfl ntmps23 rfl rfl rfl (fun t w=>results_tmp2 results23 t _ w) ?_;refine go [] ?_;refine oP (ai call57 rfl (Ye _ zA)) ?_;refine gP (fun hg=>ai call53 rfl (HI _ zA)) ?_;refine br (fun h1=>?_) (fun h1=>?_)
 ·exact fu rfl rfl (Sub.int (by rw[FZ h1])) (Sub.int (by rw[FZ h1]))
 ·refine oP (ai call58 rfl (anY gs f ho h1)) ?_;exact fu rfl rfl (Sub.int (by rw[FY h1])) (Sub.int (by rw[FY h1]))
theorem M3(gs:List (List aa))(f:Fact)(kG:f.opts.length≤1000000)(fZ:∀s∈eV f,dj s)(hf:nJ f):Fc Tryz.prog 22 [cB gs,.agg (aX f)] (.bj [.i (vb gs f).1,.i (vb gs f).2]):=by
 refine Fc.mk' [4,5] func22 rfl ntmps22 rfl rfl rfl (fun t w=>results_tmp2 results22 t _ w) ?_;refine go [] ?_;refine oP (ai call55 rfl (anG _)) ?_;refine gP (fun hg=>ai call44 rfl (NT f hf)) ?_;refine br (fun h1=>?_) (fun h1=>?_)
 ·exact fu rfl rfl (Sub.int (by rw[FZ h1])) (Sub.int (by rw[FZ h1]))
 ·refine oP (ai call56 rfl (aiv gs f kG fZ)) ?_;exact fu rfl rfl (Sub.int (by rw[FY h1])) (Sub.int (by rw[FY h1]))
@[reducible] def manyN(v:List aa):Bool:=ig 10 v||v.any (gt 24)
@[reducible] def Fy(gs:List (List aa)):Bool:=ig 10 gs||gs.any manyN
theorem Tu{gs:List (List aa)}(h:Fy gs=false):gs.flatten.length≤100:=by
 unfold Fy at h;rw[Bool.or_eq_false_iff]at h;have h1:gs.length≤10:=by have:=h.1;simp[ig]at this;omega
 have h2:∀v∈gs,v.length≤10:=fun v hv=>by
  have:=List.any_eq_false.1 h.2 v hv;simp only[manyN,Bool.or_eq_true,not_or]at this;have:=this.1;simp[ig]at this;omega
 have:∀l:List (List aa),(∀v∈l,v.length≤10)→l.flatten.length≤l.length*10:=fun l=>by
  induction l with
  |nil=>simp
  |cons a r ih=>
   intro hl;have e1:=hl a zS;have e2:=ih fun v hv=>hl v (by simp[hv]);rw[List.flatten_cons,List.length_append,List.length_cons,Nat.succ_mul];omega
 have:=this gs h2;omega
theorem agW(s:aa):Fc Tryz.prog 51 [.str s] (.b (gt 24 s)):=by
 refine Fc.mk' [2] func51 rfl ntmps51 rfl rfl rfl (fun t w=>results_tmp results51 t _ w) ?_;refine go [] ?_;exact ah rfl (Sub.refl _)
theorem ahm(v:List aa):Fc Tryz.prog 50 [aL v] (.b (manyN v)):=by
 refine Fc.mk' [2] func50 rfl ntmps50 rfl rfl rfl (fun t w=>results_tmp results50 t _ w) ?_;refine go [] ?_;refine gP (fun hg=>ai call13 rfl (ZN v _ [] rfl (gt 24) call51 (fun s _=>agW s))) ?_;exact ah rfl (Sub.bool (by simp[ig,manyN,cM]))
theorem Tt(gs:List (List aa)):Fc Tryz.prog 20 [cB gs] (.b (Fy gs)):=by
 refine Fc.mk' [2] func20 rfl ntmps20 rfl rfl rfl (fun t w=>results_tmp results20 t _ w) ?_;refine go [] ?_;refine gP (fun hg=>ai call16 rfl (ZL gs _ [] rfl manyN call50 (fun v _=>ahm v))) ?_;exact ah rfl (Sub.bool (by simp[ig,Fy]))
theorem zd{f:aM}(h:oE f=false):jj f:=by
 simp only[oE,Bool.or_eq_false_iff]at h;have h1:=rl h.1;have h2:=rl h.2;unfold jj;omega
theorem D_{f:Fact}(h:px f=false):sL f:=by
 simp only[px,Bool.or_eq_false_iff]at h;obtain⟨g1,g2,g3,g4⟩:=h;simp only[I8,Bool.or_eq_false_iff,decide_eq_false_iff_not,Nat.not_lt]at g1;obtain⟨⟨⟨⟨⟨⟨⟨⟨⟨⟨a1,a2⟩,a3⟩,a4⟩,a5⟩,a6⟩,a7⟩,a8⟩,a9⟩,He⟩,Hf⟩:=g1;refine⟨fun p hp=>?_,by omega,by omega,by omega,zd a9,zd He,zd Hf,fun o hx=>?_⟩
 ·have:=ui g3 hp;simp only[A5,Bool.or_eq_false_iff,decide_eq_false_iff_not]at this;have h2:=this.1;omega
 ·have:=ui g4 hx;simp only[yx,Bool.or_eq_false_iff]at this;exact⟨zd this.1.1.2,zd this.1.2,zd this.2⟩
theorem Kt{s:Setup}(h:py s=false):s.insts.length≤1000∧∀x∈s.insts,xE x:=by
 simp only[py,Bool.or_eq_false_iff]at h;have hi:=h.2.1.1.1.1;simp only[A4,Bool.or_eq_false_iff,decide_eq_false_iff_not]at hi;refine⟨by have:=hi.2.2;omega,fun x hx=>?_⟩;have h3:=ui hi.1 hx;simp only[A3,Bool.or_eq_false_iff]at h3;have h4:∀q∈[x.fk,x.fh,x.e_],jj q:=fun q hq=>by
  have h5:=ui h3.2 hq;simp only[yw,Bool.or_eq_false_iff]at h5;have h6:=rl h5.1;have h7:=rl h5.2;exact⟨by omega,by omega⟩
 exact⟨h4 _ zS,h4 _ zS,h4 _ zS⟩
theorem OG{s:Setup}{l:List Fact}(h:py s=false)(h2:ou l=false):q9 s l:=
 ⟨(Kt h).1,by have:=(xJ h2).1;omega,fun f hf=>by have:=(we ((xJ h2).2 f hf)).2.1;omega⟩
theorem akr{s:Setup}{l:List Fact}(h:py s=false)(h2:ou l=false)(hw:iX s l=false):Fc Tryz.prog 21 [.agg (fC s),cN l] (.bj [cB (yz s l),.i 0]):=
 (adD s l (Kt h).2 (fun f hf=>D_ ((xJ h2).2 f hf)) (OG h h2) hw).res (Sub.C9 (Sub.Qh _) (Sub.refl _))
theorem akq{s:Setup}{l:List Fact}(h:py s=false)(h2:ou l=false)(hw:iX s l=true):Fc Tryz.prog 21 [.agg (fC s),cN l] (.bj [.raw (.slice none 0 0),.i 1]):=
 adB s l (Kt h).2 (fun f hf=>D_ ((xJ h2).2 f hf)) (OG h h2) hw
theorem O8(gs:List (List aa)):Fc Tryz.prog 18 [cB gs,cB gs,.fn (.func 19) [] []] (.b true):=(Iq gs gs).res (Sub.bool (by simp[jE]))
theorem abN:Fc Tryz.prog 18 [.raw (.slice none 0 0),.raw (.slice none 0 0),.fn (.func 19) [] []] (.b true):=(O8 []).sub (.cons (Sub.nil _ _) (.cons (Sub.nil _ _) (.r .nil)))
theorem Wk{s:Setup}{l:List Fact}{f:Fact}{b:Bool}(h:(((py s||[l].any ou)||b)||px f)=false):b=false:=by
 simp only[Bool.or_eq_false_iff]at h;exact h.1.2
theorem agd(s:Setup)(l:List Fact)(gs:List (List aa))(f:Fact)(hw:iX s l=true):Fc Tryz.prog 4 [.agg (fC s),cN l,cB gs,.agg (aX f)] (.b true):=by
 refine Fc.mk' [8] func4 rfl ntmps4 rfl rfl rfl (fun t w=>results_tmp results4 t _ w) ?_;refine go [1] ?_;refine J.bE (Le.fY 4 0 rfl rfl rfl rfl) ?_;refine J.bE (Le.fY 7 1 rfl rfl rfl rfl) ?_;refine go [] ?_;refine oP (bK (n:=1) (rows:=[[cN l]]) underlying78 sizeOf31 rfl rfl rfl zeroValue31 rfl rfl rfl rfl rfl rfl rfl) ?_;refine oP (ai call7 rfl (Qe s [l]).sub) ?_;refine gP (fun hg=>ai call20 rfl (Tt gs)) ?_;refine gP (fun hg=>ai call8 rfl (I9 f)) ?_;refine br (fun h1=>?_) (fun h1=>?_)
 ·refine oP (ai call9 rfl Dx) ?_;exact ah rfl (Sub.refl _)
 ·obtain⟨jr,j2,wD⟩:=Wl (s:=s) (l:=l) h1;have ho:qG s l:=F1 jr j2;have hm:=Tu (Wk (s:=s) (l:=l) h1);have JI:=D_ wD;have uI:=we wD;have il:=(ho.app (xJ j2).1 wD).facts f zS;refine oP (ai call10 rfl (Yr ho hw)) ?_;refine oP (ai call21 rfl (akq jr j2 hw)) ?_;refine oP (ai call22 rfl (M3 gs f zO uI.2.2 il)) ?_;refine oP (ai call23 rfl (Un gs f zO zO JI)) ?_;refine oP (ai call18 rfl abN) ?_;refine gP (fun hg=>ai call9 rfl Dx) ?_;exact ah rfl (Sub.bool zS)
theorem age(s:Setup)(l:List Fact)(gs:List (List aa))(f:Fact)(hw:iX s l=false):Fc Tryz.prog 4 [.agg (fC s),cN l,cB gs,.agg (aX f)] (.b true):=by
 refine Fc.mk' [8] func4 rfl ntmps4 rfl rfl rfl (fun t w=>results_tmp results4 t _ w) ?_;refine go [1] ?_;refine J.bE (Le.fY 4 0 rfl rfl rfl rfl) ?_;refine J.bE (Le.fY 7 1 rfl rfl rfl rfl) ?_;refine go [] ?_;refine oP (bK (n:=1) (rows:=[[cN l]]) underlying78 sizeOf31 rfl rfl rfl zeroValue31 rfl rfl rfl rfl rfl rfl rfl) ?_;refine oP (ai call7 rfl (Qe s [l]).sub) ?_;refine gP (fun hg=>ai call20 rfl (Tt gs)) ?_;refine gP (fun hg=>ai call8 rfl (I9 f)) ?_;refine br (fun h1=>?_) (fun h1=>?_)
 ·refine oP (ai call9 rfl Dx) ?_;exact ah rfl (Sub.refl _)
 ·obtain⟨jr,j2,wD⟩:=Wl (s:=s) (l:=l) h1;have ho:qG s l:=F1 jr j2;have hm:=Tu (Wk (s:=s) (l:=l) h1);have JI:=D_ wD;have uI:=we wD;have il:=(ho.app (xJ j2).1 wD).facts f zS;refine oP (ai call10 rfl (I6 ho hw)) ?_;refine oP (ai call21 rfl (akr jr j2 hw)) ?_;refine oP (ai call22 rfl (M3 gs f zO uI.2.2 il)) ?_;refine oP (ai call23 rfl (Un gs f zO zO JI)) ?_;refine oP (ai call18 rfl (O8 _)) ?_;refine gP (fun hg=>ai call9 rfl Dx) ?_;exact ah rfl (Sub.bool zS)
theorem agf(s:Setup)(l:List Fact)(gs:List (List aa))(f:Fact):Fc Tryz.prog 4 [.agg (fC s),cN l,cB gs,.agg (aX f)] (.b true):=by
 by_cases h:iX s l=true
 ·exact agd s l gs f h
 ·exact age s l gs f (by simpa using h)
end Go.T
