/-
  Contracts of the functions that the statement reaches, and the logic in which they are proved (no condition): parts W88, Core49, W89, Core50, SpecD9, W90, W91.
-/
import Derived.Test.YtapflgppmigcdaaGreatDoorA13
set_option linter.all false
namespace Go.T
open Go Go.Proofs Go.Proofs.Tryz
set_option maxRecDepth 20000
theorem dW:jI Tryz.prog 3 (fun n:Int=>D.raw (.int .i64 n)) (Value.int .i64) (fun _=>True):=ad_ underlying3
@[reducible] def bC:lY→D
 |none=>.raw .nilFunc
 |some (a,b)=>.fn (.func 175) [] [.aY [.b a],.aY [.b b]]
theorem IJ(p:lY):(bC p).bG=true:=by
 cases p with
 |none=>rfl
 |some q=>rfl
@[reducible] def cV(m:gV):D:=tW (fun n:Int=>D.raw (.int .i64 n)) bC m
structure aef(w:aa)(c:Int)(m:gV)(more:List Int)where
 seen:List Nat
 ef:seen.Nodup
 bw:∀j∈seen,j<m.length
structure aeg(w:aa)(c:Int)(m:gV)(more:List Int)where
 pre:List Int
 rest:List Int
 hx:more=pre++rest
theorem oX(w:aa)(c:Int)(m:gV)(more:List Int)(xX:∀n∈more,0≤n∧n<13)(O3:more.length≤100)(hm:∀p∈m,0≤p.1∧p.1<13):Fc Tryz.prog 121 [.str w,.i c,(cV m),gU more] (.agg (cH w c (bS m more) (cV m) false)):=by
 refine Fc.iI func121 rfl ntmps121 rfl rfl rfl ?_;refine J.seq (J.af [.w] ?_);refine .W rfl (jE 0 zeroValue121 rfl)<|.nil ?_;refine J.seq (J.af [.p,.p,.p,.p,.w,.w] ?_);refine .mv rfl rfl<|.mv rfl rfl<|.mv rfl rfl<|.P rfl (rl (pl:=#[(0,1),(1,1),(2,13),(15,1),(16,1)]) underlying121 zeroValue121 (fun w=>by kernel_rfl) rfl rfl)<|.W rfl (jE 1 zeroValue121 rfl)<|.W rfl (lf sizeOf121 rfl rfl rfl rfl rfl rfl)<|.nil ?_;refine J.seq (J.seq (J.af [.p,.w] ?_));refine .mv rfl rfl<|.W rfl (ah8 2 underlying119 rfl rfl)<|.nil ?_;refine J.block ?_;refine J.loop (ι:=aef w c m more) (fun sx=>[(0,.str w),(1,.i c),(2,(cV m)),(3,gU more),(8,.box 0 0),(9,.box 1 0),(18,.box 2 0)]) (fun sx=>[(2,.mj (m.map fun p=>(fun n:Int=>D.raw (.int .i64 n)) p.1) (m.map fun p=>bC p.2) sx.seen),(1,.cells (cH w c (vH m sx.seen) (cV m) false)),(0,.cells [.str [],.raw (.int .i64 0),.b false,.b false,.b false,.b false,.b false,.b false,.b false,.b false,.b false,.b false,.b false,.b false,.b false,.raw (.map none),.b false])]) (fun sx=>w5 m.length sx.seen) ⟨[],List.nodup_nil,by simp⟩ ?_ ?_
 ·exact Le.mk rfl (.s rfl rfl (.s rfl rfl (.s rfl rfl (.s rfl rfl (.s rfl rfl (.s rfl rfl (.s rfl rfl .nil))))))) (.cons rfl rfl (.cons rfl rfl (.cons rfl rfl .nil)))
 ·rintro⟨seen,ef,bw⟩;show J _ _ _ _ [(0,.str w),(1,.i c),(2,(cV m)),(3,gU more),(8,.box 0 0),(9,.box 1 0),(18,.box 2 0)] [(2,.mj (m.map fun p=>(fun n:Int=>D.raw (.int .i64 n)) p.1) (m.map fun p=>bC p.2) seen),(1,.cells (cH w c (vH m seen) (cV m) false)),(0,.cells [.str [],.raw (.int .i64 0),.b false,.b false,.b false,.b false,.b false,.b false,.b false,.b false,.b false,.b false,.b false,.b false,.b false,.raw (.map none),.b false])];refine J.seq (J.sZ ?_);refine Tx.n rfl trivial (ah4 dW (vD:=bC) rfl rfl) (fun nb cm=>?_);rcases nb with _|⟨nj,nk,nv⟩
  ·dsimp only[q9,sA,sw];refine Tx.q rfl trivial (dY rfl rfl _) ?_;refine Tx.nil ?_;refine J.seq ?_;refine J.eQ rfl rfl ?_;refine J.exit (ei (dZ ?_));refine J.seq (J.seq (J.af [.p,.p,.p] ?_));refine .mv rfl rfl<|.P rfl (dE underlying25 rfl)<|.mv rfl rfl<|.nil ?_;refine J.block ?_;refine J.loop (ι:=aeg w c m more) (fun sx=>[(3,gU more),(8,.box 0 0),(9,.box 1 0),(26,gU more),(27,.i more.length),(28,.i sx.pre.length)]) (fun sx=>[(1,.cells (cH w c (tK (fun j=>m.any fun p=>decide (p.1=(j:Int))) sx.pre) (cV m) false)),(0,.cells [.str [],.raw (.int .i64 0),.b false,.b false,.b false,.b false,.b false,.b false,.b false,.b false,.b false,.b false,.b false,.b false,.b false,.raw (.map none),.b false])]) (fun sx=>sx.rest.length) ⟨[],_,rfl⟩ ?_ ?_
   ·exact Le.mk rfl (.s rfl rfl (.s rfl rfl (.s rfl rfl (.s rfl rfl (.cons rfl (Sub.int zS) rfl (.s rfl rfl .nil)))))) (.eq rfl (by(congr 1;exact CP fun j _=>(acp cm j).trans (by simp[tK]))) rfl (.cons rfl rfl .nil))
   ·rintro⟨pre,rest,hx⟩;show J _ _ _ _ [(3,gU more),(8,.box 0 0),(9,.box 1 0),(26,gU more),(27,.i more.length),(28,.i pre.length)] [(1,.cells (cH w c (tK (fun j=>m.any fun p=>decide (p.1=(j:Int))) pre) (cV m) false)),(0,.cells [.str [],.raw (.int .i64 0),.b false,.b false,.b false,.b false,.b false,.b false,.b false,.b false,.b false,.b false,.b false,.b false,.b false,.raw (.map none),.b false])];have hl:=congrArg List.length hx;simp only[List.length_append]at hl;rcases rest with _|⟨x,rest⟩
    ·obtain rfl:more=pre:=by simpa using hx
     refine J.seq (J.af [.p] ?_);refine .P rfl (b_ rfl rfl)<|.nil ?_;refine J.seq ?_;refine J.eQ rfl zS ?_;refine J.exit (ei (dZ ?_));refine J.seq (J.af [.r,.w] ?_);refine .R rfl (ED isAgg121 sizeOf121 rfl rfl rfl)<|.W rfl (lf sizeOf121 rfl rfl rfl rfl rfl rfl)<|.nil ?_;refine J.ret (?_);exact Rd.cA results121 isAgg121 sizeOf121 rfl rfl rfl (Sub.agg (.r (.cons (Sub.refl _) (.r (.cons (Sub.refl _) (.r (.cons (Sub.refl _) (.r (.cons (Sub.refl _) (.r (.cons (Sub.refl _) (.r (.cons (Sub.refl _) (.r (.cons (Sub.refl _) (.r (.cons (Sub.refl _) (.r .nil))))))))))))))))))
    ·simp only[List.length_cons]at hl;have r8:=xX x (by rw[hx];simp);refine J.seq (J.af [.p] ?_);refine .P rfl (b_ rfl rfl)<|.nil ?_;refine J.seq ?_;refine J.fD rfl zQ ?_;refine J.skip ?_;refine J.seq ?_;refine J.block ?_;refine J.seq (J.af [.p,.p,.p] ?_);refine .P rfl (fY underlying25 sizeOf3 rfl rfl zO (bn (fun n=>[D.i n]) hx rfl))<|.P rfl (bX isAgg3 rfl)<|.ag rfl rfl<|.nil ?_;refine J.af [.p,.p,.p,.w] ?_;refine .mv rfl rfl<|.P rfl (hZ (n:=12) 118 2 underlying121 sizeOf118 rfl rfl)<|.P rfl (BC (o2:=2+x.toNat) underlying118 sizeOf4 rfl rfl r8.1 zO zO)<|.W rfl (rn sizeOf4 rfl rfl rfl rfl zQ)<|.nil ?_;refine J.nil (cC ?_);refine J.af [.p,.p] ?_;refine .P rfl (bU rfl rfl (az zO))<|.mv rfl rfl<|.nil ?_;refine J.nil (dG ?_);exact⟨⟨pre++[x],rest,by simp[hx]⟩,by simp,Le.mk rfl (.s rfl rfl (.s rfl rfl (.s rfl rfl (.s rfl rfl (.s rfl rfl (.cons rfl (Sub.int zS) rfl .nil)))))) (.eq rfl (by(congr 1;rw[Gy r8.1 r8.2];exact CP fun j _=>(Om r8.1 j).symm)) rfl (.cons rfl rfl .nil))⟩
  ·dsimp only[q9,sA,sw];refine Tx.q rfl trivial (dY rfl rfl _) ?_;refine Tx.nil ?_;refine J.seq ?_;refine J.fD rfl rfl ?_;refine J.skip ?_;refine J.block ?_;refine J.seq (J.af [.r,.p,.p] ?_);refine .R rfl (ahN dW (vD:=bC) rfl rfl (And.left cm))<|.P rfl (dY rfl rfl)<|.ag rfl rfl<|.nil ?_;refine J.af [.p,.p,.p,.w] ?_;refine .mv rfl rfl<|.P rfl (hZ (n:=12) 118 2 underlying121 sizeOf118 rfl rfl)<|.P rfl (BC (o2:=2+nk.toNat) underlying118 sizeOf4 rfl rfl (hm _ (List.mem_of_getElem? (And.left cm))).1 (by have:=(hm _ (List.mem_of_getElem? (And.left cm))).2;omega) zO)<|.W rfl (rn sizeOf4 rfl rfl rfl rfl (by(have:=(hm _ (List.mem_of_getElem? (And.left cm))).2;have:=(hm _ (List.mem_of_getElem? (And.left cm))).1;simp;omega)))<|.nil ?_;refine J.nil (cC ?_);refine J.nil (dG ?_);exact⟨⟨seen++[nj],EW ef (And.right cm),afo (And.left cm) bw⟩,by exact E8 ((List.getElem?_eq_some_iff.1 (And.left cm)).1) (And.right cm),Le.mk rfl (.s rfl rfl (.s rfl rfl (.s rfl rfl (.s rfl rfl (.s rfl rfl (.s rfl rfl (.s rfl rfl .nil))))))) (.cons rfl rfl (.eq rfl (by(congr 1;rw[Gy (hm _ (List.mem_of_getElem? (And.left cm))).1 (hm _ (List.mem_of_getElem? (And.left cm))).2];exact CP fun j _=>(acq (And.left cm) (hm _ (List.mem_of_getElem? (And.left cm))).1 j).symm)) rfl (.cons rfl rfl .nil)))⟩
structure aed(w:aa)(c:Int)(more:List Int)where
 u:Unit
structure aee(w:aa)(c:Int)(more:List Int)where
 pre:List Int
 rest:List Int
 hx:more=pre++rest
theorem P4(w:aa)(c:Int)(more:List Int)(xX:∀n∈more,0≤n∧n<13)(O3:more.length≤100):Fc Tryz.prog 121 [.str w,.i c,(D.raw (.map none)),gU more] (.agg (cH w c (bS [] more) (D.raw (.map none)) false)):=by
 refine Fc.iI func121 rfl ntmps121 rfl rfl rfl ?_;refine J.seq (J.af [.w] ?_);refine .W rfl (jE 0 zeroValue121 rfl)<|.nil ?_;refine J.seq (J.af [.p,.p,.p,.p,.w,.w] ?_);refine .mv rfl rfl<|.mv rfl rfl<|.mv rfl rfl<|.P rfl (rl (pl:=#[(0,1),(1,1),(2,13),(15,1),(16,1)]) underlying121 zeroValue121 (fun w=>by kernel_rfl) rfl rfl)<|.W rfl (jE 1 zeroValue121 rfl)<|.W rfl (lf sizeOf121 rfl rfl rfl rfl rfl rfl)<|.nil ?_;refine J.seq (J.seq (J.af [.p,.w] ?_));refine .mv rfl rfl<|.W rfl (ah9 2 underlying119 rfl rfl)<|.nil ?_;refine J.block ?_;refine J.loop (ι:=aed w c more) (fun sx=>[(0,.str w),(1,.i c),(2,(D.raw (.map none))),(3,gU more),(8,.box 0 0),(9,.box 1 0),(18,.box 2 0)]) (fun sx=>[(2,.mn),(1,.cells (cH w c (fun _=>false) (D.raw (.map none)) false)),(0,.cells [.str [],.raw (.int .i64 0),.b false,.b false,.b false,.b false,.b false,.b false,.b false,.b false,.b false,.b false,.b false,.b false,.b false,.raw (.map none),.b false])]) (fun sx=>0) ⟨()⟩ ?_ ?_
 ·exact Le.mk rfl (.s rfl rfl (.s rfl rfl (.s rfl rfl (.s rfl rfl (.s rfl rfl (.s rfl rfl (.s rfl rfl .nil))))))) (.cons rfl rfl (.cons rfl rfl (.cons rfl rfl .nil)))
 ·rintro⟨u⟩;show J _ _ _ _ [(0,.str w),(1,.i c),(2,(D.raw (.map none))),(3,gU more),(8,.box 0 0),(9,.box 1 0),(18,.box 2 0)] [(2,.mn),(1,.cells (cH w c (fun _=>false) (D.raw (.map none)) false)),(0,.cells [.str [],.raw (.int .i64 0),.b false,.b false,.b false,.b false,.b false,.b false,.b false,.b false,.b false,.b false,.b false,.b false,.b false,.raw (.map none),.b false])]
  skip
  ·skip;refine J.seq (J.af [.r,.p] ?_);refine .R rfl (ah5 rfl rfl)<|.P rfl (dY rfl rfl)<|.nil ?_;refine J.seq ?_;refine J.eQ rfl rfl ?_;refine J.exit (ei (dZ ?_));refine J.seq (J.seq (J.af [.p,.p,.p] ?_));refine .mv rfl rfl<|.P rfl (dE underlying25 rfl)<|.mv rfl rfl<|.nil ?_;refine J.block ?_;refine J.loop (ι:=aee w c more) (fun sx=>[(3,gU more),(8,.box 0 0),(9,.box 1 0),(26,gU more),(27,.i more.length),(28,.i sx.pre.length)]) (fun sx=>[(1,.cells (cH w c (tK (fun _=>false) sx.pre) (D.raw (.map none)) false)),(0,.cells [.str [],.raw (.int .i64 0),.b false,.b false,.b false,.b false,.b false,.b false,.b false,.b false,.b false,.b false,.b false,.b false,.b false,.raw (.map none),.b false])]) (fun sx=>sx.rest.length) ⟨[],_,rfl⟩ ?_ ?_
   ·exact Le.mk rfl (.s rfl rfl (.s rfl rfl (.s rfl rfl (.s rfl rfl (.cons rfl (Sub.int zS) rfl (.s rfl rfl .nil)))))) (.cons rfl rfl (.cons rfl rfl .nil))
   ·rintro⟨pre,rest,hx⟩;show J _ _ _ _ [(3,gU more),(8,.box 0 0),(9,.box 1 0),(26,gU more),(27,.i more.length),(28,.i pre.length)] [(1,.cells (cH w c (tK (fun _=>false) pre) (D.raw (.map none)) false)),(0,.cells [.str [],.raw (.int .i64 0),.b false,.b false,.b false,.b false,.b false,.b false,.b false,.b false,.b false,.b false,.b false,.b false,.b false,.raw (.map none),.b false])];have hl:=congrArg List.length hx;simp only[List.length_append]at hl;rcases rest with _|⟨x,rest⟩
    ·obtain rfl:more=pre:=by simpa using hx
     refine J.seq (J.af [.p] ?_);refine .P rfl (b_ rfl rfl)<|.nil ?_;refine J.seq ?_;refine J.eQ rfl zS ?_;refine J.exit (ei (dZ ?_));refine J.seq (J.af [.r,.w] ?_);refine .R rfl (ED isAgg121 sizeOf121 rfl rfl rfl)<|.W rfl (lf sizeOf121 rfl rfl rfl rfl rfl rfl)<|.nil ?_;refine J.ret (?_);exact Rd.cA results121 isAgg121 sizeOf121 rfl rfl rfl (Sub.agg (.r (.cons (Sub.refl _) (.r (.cons (Sub.refl _) (.r (.cons (Sub.refl _) (.r (.cons (Sub.refl _) (.r (.cons (Sub.refl _) (.r (.cons (Sub.refl _) (.r (.cons (Sub.refl _) (.r (.cons (Sub.refl _) (.r .nil))))))))))))))))))
    ·simp only[List.length_cons]at hl;have r8:=xX x (by rw[hx];simp);refine J.seq (J.af [.p] ?_);refine .P rfl (b_ rfl rfl)<|.nil ?_;refine J.seq ?_;refine J.fD rfl zQ ?_;refine J.skip ?_;refine J.seq ?_;refine J.block ?_;refine J.seq (J.af [.p,.p,.p] ?_);refine .P rfl (fY underlying25 sizeOf3 rfl rfl zO (bn (fun n=>[D.i n]) hx rfl))<|.P rfl (bX isAgg3 rfl)<|.ag rfl rfl<|.nil ?_;refine J.af [.p,.p,.p,.w] ?_;refine .mv rfl rfl<|.P rfl (hZ (n:=12) 118 2 underlying121 sizeOf118 rfl rfl)<|.P rfl (BC (o2:=2+x.toNat) underlying118 sizeOf4 rfl rfl r8.1 zO zO)<|.W rfl (rn sizeOf4 rfl rfl rfl rfl zQ)<|.nil ?_;refine J.nil (cC ?_);refine J.af [.p,.p] ?_;refine .P rfl (bU rfl rfl (az zO))<|.mv rfl rfl<|.nil ?_;refine J.nil (dG ?_);exact⟨⟨pre++[x],rest,by simp[hx]⟩,by simp,Le.mk rfl (.s rfl rfl (.s rfl rfl (.s rfl rfl (.s rfl rfl (.s rfl rfl (.cons rfl (Sub.int zS) rfl .nil)))))) (.eq rfl (by(congr 1;rw[Gy r8.1 r8.2];exact CP fun j _=>(Om r8.1 j).symm)) rfl (.cons rfl rfl .nil))⟩
end Go.T
namespace Go.T
open Go
variable[bV]
theorem aq.insert{P:Program}{dst:Option Tmp}{t:TypeId}{x y z:Operand}{ty:TypeId}{pos:String}{ar:Array Edge}{g:Option (Nat×Bool)}{env:Env}{U:ae}{d:D}{ak:ae}
  (h:aq P ⟨dst,.mapUpdate t x y z,ty,pos,ar,g⟩ env U d ak):aq P ⟨dst,.insert t x y z,ty,pos,ar,g⟩ env U d ak:=fun O ρ a w aj hg hv=>h O ρ a w aj hg hv
end Go.T
namespace Go.T
open Go Go.Proofs Go.Proofs.Tryz
set_option maxRecDepth 20000
theorem UA(w:aa)(c:Int)(h:Nat→Bool)(m:gV):Fc Tryz.prog 123 [.agg (cH w c h (cV m) false)] (.agg (cH w c h (cV m) true)):=by
 refine Fc.iI func123 rfl ntmps123 rfl rfl rfl ?_;refine go [99999] ?_;refine J.ret (?_);exact Rd.cA results123 isAgg121 sizeOf121 rfl rfl rfl (Sub.agg (.r (.cons (Sub.refl _) (.r (.cons (Sub.refl _) (.r (.cons (Sub.refl _) (.r (.cons (Sub.refl _) (.r (.cons (Sub.refl _) (.r (.cons (Sub.refl _) (.r (.cons (Sub.refl _) (.r (.cons (Sub.refl _) (.r .nil))))))))))))))))))
theorem zo(w:aa):Fc Tryz.prog 122 [.str w,.aY [.fn (.func 121) [] []],.aY [bC (some (true,false))]] (.agg (cH w 2 (bS [((5:Int),(some (true,false):lY))] [2]) (cV [((5:Int),(some (true,false):lY))]) false)):=by
 refine Fc.iI func122 rfl ntmps122 rfl rfl rfl ?_;refine go [1,99999] ?_;refine J.sZ ?_;refine Tx.q rfl trivial (bX isAgg156 rfl _) ?_;refine Tx.q rfl trivial (aX rfl _) ?_;refine Tx.q rfl trivial (kn 1 (fun n:Int=>D.raw (.int .i64 n)) (bC) rfl) ?_;refine Tx.q rfl trivial (bX isAgg154 rfl _) ?_;refine Tx.q rfl trivial (aq.insert (dJ dW (vD:=bC) (k:=(5:Int)) (v:=(some (true,false))) underlying119 rfl rfl rfl rfl rfl rfl)) ?_;refine Tx.q rfl trivial (aX rfl _) ?_;refine Tx.q rfl trivial (bI (n:=1) (rows:=[[D.i 2]]) underlying25 sizeOf3 rfl rfl rfl zeroValue3 rfl rfl rfl rfl rfl rfl rfl _) ?_;refine Tx.bP (Le.C7 (kD:=(fun n:Int=>D.raw (.int .i64 n))) (vD:=bC) (m:=[((5:Int),(some (true,false):lY))]) 9 1 rfl rfl (fun _=>rfl) IJ) ?_;refine Tx.q rfl trivial (dX call121 rfl rfl (oX w 2 [((5:Int),(some (true,false):lY))] [2] zS zS zS).sub _) ?_;refine Tx.q rfl trivial (lf sizeOf121 rfl rfl rfl rfl rfl rfl) ?_;refine Tx.nil ?_;refine go [1,99999] ?_;refine J.ret (?_);exact Rd.cA results122 isAgg121 sizeOf121 rfl rfl rfl (Sub.agg (.r (.cons (Sub.refl _) (.r (.cons (Sub.refl _) (.r (.cons (Sub.refl _) (.r (.cons (Sub.refl _) (.r (.cons (Sub.refl _) (.r (.cons (Sub.refl _) (.r (.cons (Sub.refl _) (.r (.cons (Sub.refl _) (.r .nil))))))))))))))))))
end Go.T
namespace Go.T
open Go
variable[bV]
abbrev fV:Int→D:=fun n=>.raw (.int .i64 n)
theorem ai7{β:Type}{m:List (Int×β)}{k:Int}{v:β}(h:k∉m.map (·.1)):dm m k v=m++[(k,v)]:=by
 induction m with
 |nil=>rfl
 |cons p r ih=>
  obtain⟨a,u⟩:=p;simp only[List.map_cons,List.mem_cons,not_or]at h;simp only[dm,if_neg h.1,ih h.2,List.cons_append]
def lz(listed:Array Bool)(ins:List (Nat×Int)):List Int:=(ins.filter fun e=>bm listed e.1).map (·.2)
theorem CI{listed:Array Bool}{i:Nat}{ins:List (Nat×Int)}(hi:i<listed.size)(h:i∉ins.map (·.1)):lz (listed.setIfInBounds i true) ins=lz listed ins:=by
 unfold lz
 congr 1
 apply List.filter_congr;intro e he;have aB:¬i=e.1:=fun e'=>h (by rw[e'];exact List.mem_map_of_mem he);rw[hG hi,if_neg aB]
theorem Yu{listed:Array Bool}{i:Nat}{k:Int}{ins:List (Nat×Int)}(hi:i<listed.size)(hl:bm listed i=false)(hm:(i,k)∈ins)(hn:(ins.map (·.1)).Nodup):(lz (listed.setIfInBounds i true) ins).Perm (lz listed ins++[k]):=by
 induction ins with
 |nil=>cases hm
 |cons e r ih=>
  rw[List.map_cons,List.nodup_cons]at hn;by_cases h:i=e.1
  ·have hk:k=e.2:=by
    rcases List.mem_cons.1 hm with rfl|hm
    ·rfl
    ·exact absurd (h▸List.mem_map_of_mem (f:=Prod.fst) hm) hn.1
   have h1:=CI (listed:=listed) hi (h▸hn.1:i∉r.map (·.1));unfold lz at h1⊢;rw[List.filter_cons,List.filter_cons,hG hi,if_pos h,←h,hl,if_pos rfl];simp only[Bool.false_eq_true,if_false,List.map_cons];rw[h1,←hk];exact(List.perm_append_comm (l₁:=[k]))
  ·have H1:(i,k)∈r:=(List.mem_cons.1 hm).resolve_left (fun e'=>h (by rw[←e']));have h1:=ih H1 hn.2;unfold lz at h1⊢;rw[List.filter_cons,List.filter_cons,hG hi,if_neg h];split
   ·exact h1.cons e.2
   ·exact h1
structure lZ{β:Type}(vD:β→D)(R:Int→β→Prop)(listed:Array Bool)(U:ae)(mk fz id:Nat)(ins:List (Nat×Int)):Prop where
 no:bm listed mk=false→U.get id=none∧lz listed ins=[]
 yes:bm listed mk=true→bm listed fz=false→∃m:List (Int×β),U.get id=some (.mp (aS fV vD m))∧(m.map (·.1)).Perm (lz listed ins)∧∀p∈m,R p.1 p.2
section
variable{β:Type} {vD:β→D} {R:Int→β→Prop} {listed:Array Bool} {U ak:ae} {mk fz id i:Nat} {ins:List (Nat×Int)}
theorem lZ.other(h:lZ vD R listed U mk fz id ins)(hi:i<listed.size)(h1:i≠mk)(h2:i≠fz)(h3:i∉ins.map (·.1))(ho:ak.get id=U.get id):lZ vD R (listed.setIfInBounds i true) ak mk fz id ins:=by
 refine⟨fun e=>?_,fun e e'=>?_⟩
 ·rw[hG hi,if_neg h1]at e;rw[ho,CI hi h3];exact h.no e
 ·rw[hG hi,if_neg h1]at e;rw[hG hi,if_neg h2]at e';rw[ho,CI hi h3];exact h.yes e e'
theorem lZ.make(h:lZ vD R listed U i fz id ins)(hi:i<listed.size)(hl:bm listed i=false)(h3:i∉ins.map (·.1)):lZ vD R (listed.setIfInBounds i true) ((id,.mp (aS fV vD []))::U) i fz id ins:=by
 refine⟨fun e=>?_,fun _ _=>⟨[],by simp[ae.aZ],?_,by simp⟩⟩
 ·rw[hG hi,if_pos rfl]at e;cases e
 ·rw[CI hi h3,(h.no hl).2];simp
theorem lZ.insert{k:Int}{v:β}{m:List (Int×β)}(h:lZ vD R listed U mk fz id ins)(hi:i<listed.size)(hl:bm listed i=false)(h1:i≠mk)(h2:i≠fz)(hm:(i,k)∈ins)(hn:(ins.map (·.1)).Nodup)(hk:(ins.map (·.2)).Nodup)
  (ho:U.get id=some (.mp (aS fV vD m)))(hp:(m.map (·.1)).Perm (lz listed ins))(hR:∀p∈m,R p.1 p.2)(hv:R k v):lZ vD R (listed.setIfInBounds i true) (U.set id (.mp (aS fV vD (dm m k v)))) mk fz id ins:=by
 have vU:k∉m.map (·.1):=by
  intro HU;have h4:=hp.mem_iff.1 HU;unfold lz at h4;obtain⟨e,he,lE⟩:=List.mem_map.1 h4;rw[List.mem_filter]at he;have:e=(i,k):=by
   have h5:∀(l:List (Nat×Int)),(l.map (·.2)).Nodup→∀a∈l,∀b∈l,a.2=b.2→a=b:=by
    intro l;induction l with
    |nil=>intro _ a ha;cases ha
    |cons x l ih=>
     intro hn a ha b hb vG;rw[List.map_cons,List.nodup_cons]at hn;rcases List.mem_cons.1 ha with ea|vF<;>rcases List.mem_cons.1 hb with eb|tL
     ·rw[ea,eb]
     ·exact absurd (by rw[←ea,vG];exact List.mem_map_of_mem (f:=Prod.snd) tL) hn.1
     ·exact absurd (by rw[←eb,←vG];exact List.mem_map_of_mem (f:=Prod.snd) vF) hn.1
     ·exact ih hn.2 a vF b tL vG
   exact h5 ins hk e he.1 (i,k) hm lE
  rw[this]at he;rw[hl]at he;cases he.2
 refine⟨fun e=>?_,fun _ _=>⟨m++[(k,v)],by rw[ae.dU,if_pos rfl,ai7 vU],?_,fun p nO=>?_⟩⟩
 ·rw[hG hi,if_neg h1]at e;rw[(h.no e).1]at ho;cases ho
 ·rw[List.map_append];exact(hp.append_right [k]).trans (Yu hi hl hm hn).symm
 ·rcases List.mem_append.1 nO with nO|nO
  ·exact hR p nO
  ·simp at nO;subst nO;exact hv
theorem lZ.freeze(h:lZ vD R listed U mk i id ins)(hi:i<listed.size)(h1:bm listed mk=true):lZ vD R (listed.setIfInBounds i true) ak mk i id ins:=by
 refine⟨fun e=>?_,fun _ e=>?_⟩
 ·rw[hG hi]at e;split at e
  ·cases e
  ·rw[h1]at e;cases e
 ·rw[hG hi,if_pos rfl]at e;cases e
end
def pq(ii:List (Option Nat))(VK:Nat→D→Prop)(listed:Array Bool)(env:Env):Prop:=∀j t,bm listed j=true→ii[j]?=some (some t)→∃d,env.get t=some d∧VK j d
def zG(ii:List (Option Nat)):Bool:=(List.range ii.length).all fun i=>(List.range ii.length).all fun j=>i==j||ii[i]?!=ii[j]?||ii[i]?==some none
theorem Mw{ii:List (Option Nat)}(h:zG ii=true){i j t:Nat}(hi:ii[i]?=some (some t))(hj:ii[j]?=some (some t)):i=j:=by
 have li:=(List.getElem?_eq_some_iff.1 hi).1;have lj:=(List.getElem?_eq_some_iff.1 hj).1;have h1:=List.all_eq_true.1 (List.all_eq_true.1 h i (List.mem_range.2 li)) j (List.mem_range.2 lj);rw[hi,hj]at h1;simpa using h1
theorem pq.put{ii:List (Option Nat)}{VK:Nat→D→Prop}{listed:Array Bool}{env:Env}{i t:Nat}{d:D}(h:pq ii VK listed env)(hd:zG ii=true)(hi:i<listed.size)(ht:ii[i]?=some (some t))(hv:VK i d):pq ii VK (listed.setIfInBounds i true) ((t,d)::env):=by
 intro j t' hj pJ;rw[Env.aZ];by_cases e:t=t'
 ·subst e;obtain rfl:=Mw hd ht pJ;exact⟨d,by rw[if_pos rfl],hv⟩
 ·rw[if_neg e];refine h j t' ?_ pJ;rw[hG hi]at hj;split at hj
  ·rename_i e';subst e';rw[ht]at pJ;cases pJ;exact absurd rfl e
  ·exact hj
theorem pq.none{ii:List (Option Nat)}{VK:Nat→D→Prop}{listed:Array Bool}{env:Env}{i:Nat}(h:pq ii VK listed env)(hi:i<listed.size)(ht:ii[i]?=some Option.none):pq ii VK (listed.setIfInBounds i true) env:=by
 intro j t' hj pJ;refine h j t' ?_ pJ;rw[hG hi]at hj;split at hj
 ·rename_i e';subst e';rw[ht]at pJ;cases pJ
 ·exact hj
theorem dp{listed:Array Bool}{o:Oper}(hd:∀e∈o.after,Region.binds .any e=true→bm listed e.on=true)(j:Nat)(h:(o.after.any fun e=>e.on==j&&Region.binds .any e)=true):bm listed j=true:=by
 rw[Array.any_eq_true']at h;obtain⟨e,he,h2⟩:=h;rw[Bool.and_eq_true]at h2;have:=hd e he h2.2;rwa[show e.on=j by simpa using h2.1]at this
end Go.T
namespace Go.T
open Go
def cO(E m:gV):Prop:=(m.map (·.1)).Perm (E.map (·.1))∧∀p∈m,p∈E
theorem cO.refl(E:gV):cO E E:=⟨List.Perm.refl _,fun _ h=>h⟩
structure kr where
 w:aa
 c:Int
 h:Nat→Bool
 num:Option gV
 code:Bool
structure ir where
 w:aa
 c:Int
 num:Option gV
 more:List Int
 code:Bool
@[reducible] def lP:lY:=some (true,false)
@[reducible] def lL:lY:=some (false,false)
@[reducible] def lQ:lY:=some (false,true)
@[reducible] def eA:gV:=[(5,lP)]
@[reducible] def eT:gV:=[(4,lP),(5,lL),(6,lL)]
def dC(k:Int):Option ir:=
 if k=1 then some ⟨[100,101,112,111,115,105,116],2,some eA,[2],false⟩
 else if k=2 then some ⟨[119,105,116,104,100,114,97,119],2,some eA,[2],false⟩
 else if k=3 then some ⟨[98,117,121],3,some eT,[0],false⟩
 else if k=4 then some ⟨[115,101,108,108],3,some eT,[0,10],false⟩
 else if k=5 then some ⟨[105,110,99,111,109,101],1,some [(7,lP)],[0],false⟩
 else if k=6 then some ⟨[101,120,112,101,110,115,101],2,some eA,[2],false⟩
 else if k=7 then some ⟨[99,111,110,118,101,114,116],2,some [(4,lP),(5,lP)],[1,2],true⟩
 else if k=8 then some ⟨[115,112,108,105,116],1,some [(7,lL),(8,lP)],[0],false⟩
 else if k=9 then some ⟨[115,112,105,110,111,102,102],1,some [(7,lL),(8,lP),(9,lQ)],[0,1],false⟩
 else if k=10 then some ⟨[101,120,99,104,97,110,103,101],1,none,[0,11],false⟩
 else if k=11 then some ⟨[101,108,101,99,116],4,none,[0,3,12],false⟩
 else if k=12 then some ⟨[101,120,101,114,99,105,115,101],3,some [(4,lP),(7,lL),(8,lP)],[0,1],false⟩
 else if k=13 then some ⟨[99,97,112,105,116,97,108],1,some [(7,lP)],[0],false⟩
 else if k=14 then some ⟨[99,97,108,108],1,some [(7,lL)],[0],false⟩
 else if k=15 then some ⟨[112,114,105,99,101],4,some [(7,lL)],[0],false⟩
 else if k=16 then some ⟨[114,97,116,101],4,some [(8,lP)],[1,2],true⟩
 else if k=17 then some ⟨[105,115,115,117,101],2,some eA,[2],false⟩
 else if k=18 then some ⟨[99,97,110,99,101,108],2,some eA,[2],false⟩
 else none
def Ka(r:ir)(v:kr):Prop:=
 match r.num with
 |none=>v.num=none∧v.h=bS [] r.more
 |some E=>∃m,cO E m∧v.num=some m∧v.h=bS m r.more
def qf(k:Int)(v:kr):Prop:=∃r,dC k=some r∧v.w=r.w∧v.c=r.c∧v.code=r.code∧Ka r v
structure MQ where
 bo:Nat
 fz:Nat
 id:Nat
 ins:List (Nat×Int)
 E:gV
 deriving DecidableEq
def MQ.ok(q:MQ)(i:Nat):Bool:=!(i==q.bo)&&!(i==q.fz)&&!(q.ins.map (·.1)).contains i
theorem MQ.wD{q:MQ}{i:Nat}(h:q.ok i=true):i≠q.bo∧i≠q.fz∧i∉q.ins.map (·.1):=by
 unfold MQ.ok at h;rw[Bool.and_eq_true,Bool.and_eq_true]at h;refine⟨by simpa using h.1.1,by simpa using h.1.2,?_⟩;have:=h.2;intro hm;rw[List.contains_iff_mem.2 hm]at this;cases this
open Go.Proofs Go.Proofs.Tryz
set_option maxRecDepth 20000
def pO:List (Option Nat):=[some 15,some 16,some 17,none,some 18,some 19,none,some 20,some 21,some 22,some 23,none,some 24,some 25,some 26,some 27,none,some 28,some 29,some 30,none,some 31,some 32,some 33,none,some 34,some 35,none,some 36,some 37,some 38,some 39,none,some 40,none,some 41,some 42,some 43,some 44,none,some 45,some 46,some 47,none,some 48,none,some 49,some 50,some 51,none,some 52,some 53,some 54,none,some 55,none,some 56,none,some 57,some 58,some 59,none,some 60,some 61,some 62,none,some 63,some 64,some 65,none,some 66,some 67,some 68,none,some 69,none,some 70,none,some 71,some 72,some 73,none,some 74,some 75,some 76,none,some 77,some 78,some 79,none,some 80,some 81,some 82,none,some 83,some 84,some 85,none,some 86,some 87,some 88,none,some 89,some 90,some 91,none,some 92,some 93,some 94,some 95,none,some 96,some 97,some 98,some 99,none,some 100,some 101,none,some 102,some 103,none,some 104,some 0]
def kVT:List (D→Prop):=[fun d=>d=.bu 50,
 fun d=>d=.fn (.func 122) [] [.aY [.fn (.func 121) [] []],.aY [bC (some (true,false))]],
 fun d=>∃m,cO eA m∧d=.agg (cH [100,101,112,111,115,105,116] 2 (bS m [2]) (cV m) false),
 fun _=>True,
 fun d=>d=.fn (.func 122) [] [.aY [.fn (.func 121) [] []],.aY [bC (some (true,false))]],
 fun d=>∃m,cO eA m∧d=.agg (cH [119,105,116,104,100,114,97,119] 2 (bS m [2]) (cV m) false),
 fun _=>True,
 fun d=>d=.fn (.func 121) [] [],
 fun d=>d=cV eT,
 fun d=>d=.snap 1 true [[D.i 0]],
 fun d=>∃m,cO eT m∧d=.agg (cH [98,117,121] 3 (bS m [0]) (cV m) false),
 fun _=>True,
 fun d=>d=.fn (.func 121) [] [],
 fun d=>d=cV eT,
 fun d=>d=.snap 1 true [[D.i 0],[D.i 10]],
 fun d=>∃m,cO eT m∧d=.agg (cH [115,101,108,108] 3 (bS m [0,10]) (cV m) false),
 fun _=>True,
 fun d=>d=.fn (.func 121) [] [],
 fun d=>d=.bu 51,
 fun d=>d=bC lP,
 fun _=>True,
 fun d=>∃m,cO [((7:Int),lP)] m∧d=cV m,
 fun d=>d=.snap 1 true [[D.i 0]],
 fun d=>∃m,cO [((7:Int),lP)] m∧d=.agg (cH [105,110,99,111,109,101] 1 (bS m [0]) (cV m) false),
 fun _=>True,
 fun d=>d=.fn (.func 122) [] [.aY [.fn (.func 121) [] []],.aY [bC (some (true,false))]],
 fun d=>∃m,cO eA m∧d=.agg (cH [101,120,112,101,110,115,101] 2 (bS m [2]) (cV m) false),
 fun _=>True,
 fun d=>d=.fn (.func 123) [] [],
 fun d=>d=.fn (.func 121) [] [],
 fun d=>d=.bu 52,
 fun d=>d=bC lP,
 fun _=>True,
 fun d=>d=bC lP,
 fun _=>True,
 fun d=>∃m,cO [((4:Int),lP),((5:Int),lP)] m∧d=cV m,
 fun d=>d=.snap 1 true [[D.i 1],[D.i 2]],
 fun d=>∃m,cO [((4:Int),lP),((5:Int),lP)] m∧d=.agg (cH [99,111,110,118,101,114,116] 2 (bS m [1,2]) (cV m) false),
 fun d=>∃m,cO [((4:Int),lP),((5:Int),lP)] m∧d=.agg (cH [99,111,110,118,101,114,116] 2 (bS m [1,2]) (cV m) true),
 fun _=>True,
 fun d=>d=.fn (.func 121) [] [],
 fun d=>d=.bu 53,
 fun d=>d=bC lL,
 fun _=>True,
 fun d=>d=bC lP,
 fun _=>True,
 fun d=>∃m,cO [((7:Int),lL),((8:Int),lP)] m∧d=cV m,
 fun d=>d=.snap 1 true [[D.i 0]],
 fun d=>∃m,cO [((7:Int),lL),((8:Int),lP)] m∧d=.agg (cH [115,112,108,105,116] 1 (bS m [0]) (cV m) false),
 fun _=>True,
 fun d=>d=.fn (.func 121) [] [],
 fun d=>d=.bu 54,
 fun d=>d=bC lL,
 fun _=>True,
 fun d=>d=bC lP,
 fun _=>True,
 fun d=>d=bC lQ,
 fun _=>True,
 fun d=>∃m,cO [((7:Int),lL),((8:Int),lP),((9:Int),lQ)] m∧d=cV m,
 fun d=>d=.snap 1 true [[D.i 0],[D.i 1]],
 fun d=>∃m,cO [((7:Int),lL),((8:Int),lP),((9:Int),lQ)] m∧d=.agg (cH [115,112,105,110,111,102,102] 1 (bS m [0,1]) (cV m) false),
 fun _=>True,
 fun d=>d=.fn (.func 121) [] [],
 fun d=>d=.snap 1 true [[D.i 0],[D.i 11]],
 fun d=>d=.agg (cH [101,120,99,104,97,110,103,101] 1 (bS [] [0,11]) (.raw (.map none)) false),
 fun _=>True,
 fun d=>d=.fn (.func 121) [] [],
 fun d=>d=.snap 1 true [[D.i 0],[D.i 3],[D.i 12]],
 fun d=>d=.agg (cH [101,108,101,99,116] 4 (bS [] [0,3,12]) (.raw (.map none)) false),
 fun _=>True,
 fun d=>d=.fn (.func 121) [] [],
 fun d=>d=.bu 55,
 fun d=>d=bC lP,
 fun _=>True,
 fun d=>d=bC lL,
 fun _=>True,
 fun d=>d=bC lP,
 fun _=>True,
 fun d=>∃m,cO [((4:Int),lP),((7:Int),lL),((8:Int),lP)] m∧d=cV m,
 fun d=>d=.snap 1 true [[D.i 0],[D.i 1]],
 fun d=>∃m,cO [((4:Int),lP),((7:Int),lL),((8:Int),lP)] m∧d=.agg (cH [101,120,101,114,99,105,115,101] 3 (bS m [0,1]) (cV m) false),
 fun _=>True,
 fun d=>d=.fn (.func 121) [] [],
 fun d=>d=.bu 56,
 fun d=>d=bC lP,
 fun _=>True,
 fun d=>∃m,cO [((7:Int),lP)] m∧d=cV m,
 fun d=>d=.snap 1 true [[D.i 0]],
 fun d=>∃m,cO [((7:Int),lP)] m∧d=.agg (cH [99,97,112,105,116,97,108] 1 (bS m [0]) (cV m) false),
 fun _=>True,
 fun d=>d=.fn (.func 121) [] [],
 fun d=>d=.bu 57,
 fun d=>d=bC lL,
 fun _=>True,
 fun d=>∃m,cO [((7:Int),lL)] m∧d=cV m,
 fun d=>d=.snap 1 true [[D.i 0]],
 fun d=>∃m,cO [((7:Int),lL)] m∧d=.agg (cH [99,97,108,108] 1 (bS m [0]) (cV m) false),
 fun _=>True,
 fun d=>d=.fn (.func 121) [] [],
 fun d=>d=.bu 58,
 fun d=>d=bC lL,
 fun _=>True,
 fun d=>∃m,cO [((7:Int),lL)] m∧d=cV m,
 fun d=>d=.snap 1 true [[D.i 0]],
 fun d=>∃m,cO [((7:Int),lL)] m∧d=.agg (cH [112,114,105,99,101] 4 (bS m [0]) (cV m) false),
 fun _=>True,
 fun d=>d=.fn (.func 123) [] [],
 fun d=>d=.fn (.func 121) [] [],
 fun d=>d=.bu 59,
 fun d=>d=bC lP,
 fun _=>True,
 fun d=>∃m,cO [((8:Int),lP)] m∧d=cV m,
 fun d=>d=.snap 1 true [[D.i 1],[D.i 2]],
 fun d=>∃m,cO [((8:Int),lP)] m∧d=.agg (cH [114,97,116,101] 4 (bS m [1,2]) (cV m) false),
 fun d=>∃m,cO [((8:Int),lP)] m∧d=.agg (cH [114,97,116,101] 4 (bS m [1,2]) (cV m) true),
 fun _=>True,
 fun d=>d=.fn (.func 122) [] [.aY [.fn (.func 121) [] []],.aY [bC (some (true,false))]],
 fun d=>∃m,cO eA m∧d=.agg (cH [105,115,115,117,101] 2 (bS m [2]) (cV m) false),
 fun _=>True,
 fun d=>d=.fn (.func 122) [] [.aY [.fn (.func 121) [] []],.aY [bC (some (true,false))]],
 fun d=>∃m,cO eA m∧d=.agg (cH [99,97,110,99,101,108] 2 (bS m [2]) (cV m) false),
 fun _=>True,
 fun d=>d=.bu 50,
 fun d=>d=.bu 50]
def yc(i:Nat):D→Prop:=(kVT[i]?).getD fun _=>True
def jV:List MQ:=[⟨18,21,51,[(20,7)],[((7:Int),lP)]⟩,⟨30,35,52,[(32,4),(34,5)],[((4:Int),lP),((5:Int),lP)]⟩,⟨41,46,53,[(43,7),(45,8)],[((7:Int),lL),((8:Int),lP)]⟩,⟨51,58,54,[(53,7),(55,8),(57,9)],[((7:Int),lL),((8:Int),lP),((9:Int),lQ)]⟩,⟨71,78,55,[(73,4),(75,7),(77,8)],[((4:Int),lP),((7:Int),lL),((8:Int),lP)]⟩,⟨83,86,56,[(85,7)],[((7:Int),lP)]⟩,⟨91,94,57,[(93,7)],[((7:Int),lL)]⟩,⟨99,102,58,[(101,7)],[((7:Int),lL)]⟩,⟨108,111,59,[(110,8)],[((8:Int),lP)]⟩]
def lM:List (Nat×Int):=[(3,1),(6,2),(11,3),(16,4),(24,5),(27,6),(39,7),(49,8),(61,9),(65,10),(69,11),(81,12),(89,13),(97,14),(105,15),(115,16),(118,17),(121,18)]
@[reducible] def yG:Option gV→D
 |none=>.raw (.map none)
 |some m=>cV m
@[reducible] def eD(v:kr):D:=.agg (cH v.w v.c v.h (yG v.num) v.code)
theorem aec(v:kr):(eD v).bG=true:=by
 obtain⟨w,c,h,n,code⟩:=v;cases n<;>rfl
theorem AN:zG pO=true:=by decide+kernel
abbrev KF:Fr:=⟨105,[],false,none⟩
structure Ce(env:Env):Prop where
 b1:env.get 1=some (.aY [bC lP])
 b2:env.get 2=some (bC lL)
 b3:env.get 3=some (.aY [.fn (.func 121) [] []])
 b4:env.get 4=some (.fn (.func 122) [] [.aY [.fn (.func 121) [] []],.aY [bC (some (true,false))]])
 b5:env.get 5=some (.fn (.func 123) [] [])
 b6:env.get 6=some (cV eT)
structure mF(listed:Array Bool)(env:Env)(U:ae):Prop where
 aC:pq pO yc listed env
 dR:Ce env
 yr:lZ eD qf listed U 0 1000 50 lM
 sq:∀q∈jV,lZ bC (fun k v=>(k,v)∈q.E) listed U q.bo q.fz q.id q.ins
 va:∀q∈jV,bm listed q.fz=true→∀e∈q.ins,bm listed e.1=true
theorem Ce.put{env:Env}{t:Nat}{d:D}(h:Ce env)(ht:(Nat.blt 6 t||t==0)=true):Ce ((t,d)::env):=by
 have ht:6<t∨t=0:=by simpa[Nat.blt_eq]using ht
 have key:∀s,0<s→s≤6→Env.get ((t,d)::env) s=env.get s:=fun s h0 hs=>by rw[Env.aZ,if_neg zO]
 exact⟨by rw[key 1 zO zO];exact h.b1,by rw[key 2 zO zO];exact h.b2,by rw[key 3 zO zO];exact h.b3,by rw[key 4 zO zO];exact h.b4,by rw[key 5 zO zO];exact h.b5,by rw[key 6 zO zO];exact h.b6⟩
abbrev rB(listed:Array Bool)(env:Env)(U:ae)(i:Nat)(o:Oper)(ops:Array Oper):Prop:=
 ∃d ak fE dl,ed KF.N o.dst=true∧On ops env o∧aq Tryz.prog o env U d ak∧Le KF (env.put o.dst d) ak fE dl∧mF (listed.setIfInBounds i true) fE dl
theorem sG{ops:Array Oper}{env:Env}{o:Oper}(h:o.guard=none):On ops env o:=by unfold On;rw[h];trivial
def GZ(i:Nat):Bool:=!(i==0)&&!(i==1000)&&!(lM.map (·.1)).contains i&&jV.all (·.ok i)
theorem pq.ajf{ii:List (Option Nat)}{VK:Nat→D→Prop}{listed:Array Bool}{env:Env}{i t:Nat}{d:D}(h:pq ii VK listed env)(hd:zG ii=true)(hl:bm listed i=false)(ht:ii[i]?=some (some t)):pq ii VK listed ((t,d)::env):=by
 intro j t' hj pJ;rw[Env.aZ];by_cases e:t=t'
 ·subst e;obtain rfl:=Mw hd ht pJ;rw[hl]at hj;cases hj
 ·rw[if_neg e];exact h j t' hj pJ
theorem AQ{listed:Array Bool}{i j:Nat}(hi:i<listed.size)(h:bm listed j=true):bm (listed.setIfInBounds i true) j=true:=by
 rw[hG hi];split
 ·rfl
 ·exact h
def sC(i:Nat):Bool:=jV.all fun q=>!(i==q.fz)
theorem zw{listed:Array Bool}{i:Nat}(h:∀q∈jV,bm listed q.fz=true→∀e∈q.ins,bm listed e.1=true)(hi:i<listed.size)(hz:sC i=true):∀q∈jV,bm (listed.setIfInBounds i true) q.fz=true→∀e∈q.ins,bm (listed.setIfInBounds i true) e.1=true:=by
 intro q hq hf e he;have h1:i≠q.fz:=by simpa using List.all_eq_true.1 hz q hq
 rw[hG hi,if_neg h1]at hf;exact AQ hi (h q hq hf e he)
def Co(listed:Array Bool):List (Nat×Int)→Prop
 |[]=>True
 |e::r=>bm listed e.1=true∧Co listed r
theorem Co.all{listed:Array Bool}:∀{l:List (Nat×Int)},Co listed l→∀e∈l,bm listed e.1=true
 |[],_,e,he=>by cases he
 |x::l,h,e,he=>by
  rcases List.mem_cons.1 he with rfl|he
  ·exact h.1
  ·exact h.2.all e he
theorem MC{listed:Array Bool}{l:List (Nat×Int)}(h:∀e∈l,bm listed e.1=true):lz listed l=l.map (·.2):=by
 unfold lz;rw[List.filter_eq_self.2 h]
def kQ(j:Nat):MQ:=(jV[j]?).getD ⟨0,0,0,[],[]⟩
theorem jW{j:Nat}(h:Nat.blt j jV.length=true):kQ j∈jV:=by
 have h:j<jV.length:=by simpa[Nat.blt_eq]using h
 unfold kQ;rw[List.getElem?_eq_getElem h];exact List.getElem_mem h
section
variable{ops:Array Oper} {listed:Array Bool} {env:Env} {U:ae} {i t:Nat} {o:Oper} {d:D}
theorem D4{ak:ae}(hI:mF listed env U)(be:i<listed.size)(h:(!(i==0)&&!(i==1000)&&!(lM.map (·.1)).contains i)=true)(ho:ak.get 50=U.get 50):lZ eD qf (listed.setIfInBounds i true) ak 0 1000 50 lM:=by
 rw[Bool.and_eq_true,Bool.and_eq_true]at h;refine hI.yr.other be (by simpa using h.1.1) (by simpa using h.1.2) (fun hm=>?_) ho;have:=h.2;rw[List.contains_iff_mem.2 hm]at this;cases this
theorem ahC(hs:listed.size=ops.size)(hn:Nat.blt i ops.size=true)(hI:mF listed env U)(hi:pO[i]?=some (some t))(ht:(Nat.blt 6 t||t==0)=true)(hN:ed KF.N (some t)=true)(ho:o.dst=some t)(hg:o.guard=none)(hV:yc i d)(hf:GZ i=true)(hz:sC i=true)(hq:aq Tryz.prog o env U d U):rB listed env U i o ops:=by
 have be:i<listed.size:=by rw[hs];simpa[Nat.blt_eq]using hn
 unfold GZ at hf;rw[Bool.and_eq_true]at hf;refine⟨d,U,(t,d)::env,U,by rw[ho];exact hN,sG hg,hq,by rw[ho];exact Le.refl _ _ _,hI.aC.put AN be hi hV,hI.dR.put ht,D4 hI be hf.1 rfl,fun q hq=>?_,zw hI.va be hz⟩;obtain⟨h1,h2,h3⟩:=MQ.wD (List.all_eq_true.1 hf.2 q hq);exact(hI.sq q hq).other be h1 h2 h3 rfl
def wE(i:Nat)(q:MQ):Bool:=!(i==0)&&!(i==1000)&&!(lM.map (·.1)).contains i&&!(q.id==50)&&jV.all fun r=>r==q||(r.ok i&&!(r.id==q.id))
theorem so{q:MQ}(hs:listed.size=ops.size)(hn:Nat.blt i ops.size=true)(hI:mF listed env U)(hl:bm listed i=false)(hi:pO[i]?=some (some t))(ht:(Nat.blt 6 t||t==0)=true)(hN:ed KF.N (some t)=true)(ho:o.dst=some t)(hg:o.guard=none)(hV:yc i (.bu q.id))(hq:q∈jV)(hf:wE i q=true)(hm:i=q.bo)(eu:(q.ins.map (·.1)).contains i=false)(hz:sC i=true)
  (aT:U.get q.id=none→aq Tryz.prog o env U (.bu q.id) ((q.id,.mp (aS fV bC []))::U)):rB listed env U i o ops:=by
 have be:i<listed.size:=by rw[hs];simpa[Nat.blt_eq]using hn
 unfold wE at hf;rw[Bool.and_eq_true,Bool.and_eq_true]at hf;have Ac:q.id≠50:=by simpa using hf.1.2
 have oT:=hI.sq q hq;rw[←hm]at oT;refine⟨_,_,(t,.bu q.id)::env,_,by rw[ho];exact hN,sG hg,aT (oT.no hl).1,by rw[ho];exact Le.refl _ _ _,hI.aC.put AN be hi hV,hI.dR.put ht,D4 hI be hf.1.1 (by rw[ae.aZ,if_neg Ac]),fun r hr=>?_,zw hI.va be hz⟩;have h:=List.all_eq_true.1 hf.2 r hr;rw[Bool.or_eq_true]at h;rcases h with h|h
 ·obtain rfl:r=q:=by simpa using h
  rw[←hm];exact oT.make be hl (fun hm=>by rw[List.contains_iff_mem.2 hm]at eu;cases eu)
 ·rw[Bool.and_eq_true]at h;obtain⟨h1,h2,h3⟩:=MQ.wD h.1;have h4:r.id≠q.id:=by simpa using h.2
  exact(hI.sq r hr).other be h1 h2 h3 (by rw[ae.aZ,if_neg (Ne.symm h4)])
theorem adE{q:MQ}{k:Int}{v:lY}(hs:listed.size=ops.size)(hn:Nat.blt i ops.size=true)(hI:mF listed env U)(hl:bm listed i=false)(hi:pO[i]?=some none)(ho:o.dst=none)(hg:o.guard=none)(hq:q∈jV)(hf:wE i q=true)(oQ:bm listed q.bo=true)(hz:sC i=true)(hm:(i,k)∈q.ins)(aB:(!(i==q.bo)&&!(i==q.fz))=true)(nN:(q.ins.map (·.1)).Nodup)(tT:(q.ins.map (·.2)).Nodup)(hv:(k,v)∈q.E)
  (aT:∀m,U.get q.id=some (.mp (aS fV bC m))→aq Tryz.prog o env U (.raw undef) (U.set q.id (.mp (aS fV bC (dm m k v))))):rB listed env U i o ops:=by
 have be:i<listed.size:=by rw[hs];simpa[Nat.blt_eq]using hn
 unfold wE at hf;rw[Bool.and_eq_true,Bool.and_eq_true]at hf;rw[Bool.and_eq_true]at aB;have Ac:q.id≠50:=by simpa using hf.1.2
 have oT:=hI.sq q hq;have qA:bm listed q.fz=false:=by
  cases e:bm listed q.fz with
  |false=>rfl
  |true=>have:=hI.va q hq e _ hm;rw[hl]at this;cases this
 obtain⟨m,g1,g2,g3⟩:=oT.yes oQ qA;refine⟨_,_,env,_,by rw[ho];rfl,sG hg,aT m g1,by rw[ho];exact Le.refl _ _ _,hI.aC.none be hi,hI.dR,D4 hI be hf.1.1 (by rw[ae.dU,if_neg Ac]),fun r hr=>?_,zw hI.va be hz⟩;have h:=List.all_eq_true.1 hf.2 r hr;rw[Bool.or_eq_true]at h;rcases h with h|h
 ·obtain rfl:r=q:=by simpa using h
  exact oT.insert be hl (by simpa using aB.1) (by simpa using aB.2) hm nN tT g1 g2 g3 hv
 ·rw[Bool.and_eq_true]at h;obtain⟨h1,h2,h3⟩:=MQ.wD h.1;have h4:r.id≠q.id:=by simpa using h.2
  exact(hI.sq r hr).other be h1 h2 h3 (by rw[ae.dU,if_neg (Ne.symm h4)])
theorem rS{q:MQ}(hs:listed.size=ops.size)(hn:Nat.blt i ops.size=true)(hI:mF listed env U)(hl:bm listed i=false)(hi:pO[i]?=some (some t))(ht:(Nat.blt 6 t||t==0)=true)(hN:ed KF.N (some t)=true)(ho:o.dst=some t)(hg:o.guard=none)(hq:q∈jV)(hf:wE i q=true)(hm:i=q.fz)(oQ:bm listed q.bo=true)(OR:Co listed q.ins)(hE:q.ins.map (·.2)=q.E.map (·.1))
  (hV:∀m,cO q.E m→yc i (cV m))(aT:aq Tryz.prog o env U (.bu q.id) U):rB listed env U i o ops:=by
 have be:i<listed.size:=by rw[hs];simpa[Nat.blt_eq]using hn
 unfold wE at hf;rw[Bool.and_eq_true,Bool.and_eq_true]at hf;have Ac:q.id≠50:=by simpa using hf.1.2
 have oT:=hI.sq q hq;obtain⟨m,g1,g2,g3⟩:=oT.yes oQ (by rw[←hm];exact hl);rw[MC OR.all,hE]at g2;refine⟨_,U,(t,cV m)::(t,.bu q.id)::env,U.set q.id .dead,by rw[ho];exact hN,sG hg,aT,by rw[ho];exact Le.C7 (kD:=fV) (vD:=bC) (m:=m) t q.id (by show Env.get ((t,D.bu q.id)::env) t=_;rw[Env.aZ,if_pos rfl]) g1 (fun _=>rfl) IJ,
  (hI.aC.ajf AN hl hi).put AN be hi (hV m ⟨g2,fun p hp=>g3 p hp⟩),(hI.dR.put ht).put ht,D4 hI be hf.1.1 (by rw[ae.dU,if_neg Ac]),fun r hr=>?_,fun r hr vO e he=>?_⟩
 rotate_left
 ·have h:=List.all_eq_true.1 hf.2 r hr;rw[Bool.or_eq_true]at h;rcases h with h|h
  ·obtain rfl:r=q:=by simpa using h
   exact AQ be (OR.all e he)
  ·rw[Bool.and_eq_true]at h;have h2:=(MQ.wD h.1).2.1;rw[hG be,if_neg h2]at vO;exact AQ be (hI.va r hr vO e he)
 have h:=List.all_eq_true.1 hf.2 r hr;rw[Bool.or_eq_true]at h;rcases h with h|h
 ·obtain rfl:r=q:=by simpa using h
  subst hm;exact oT.freeze be oQ
 ·rw[Bool.and_eq_true]at h;obtain⟨h1,h2,h3⟩:=MQ.wD h.1;have h4:r.id≠q.id:=by simpa using h.2
  exact(hI.sq r hr).other be h1 h2 h3 (by rw[ae.dU,if_neg (Ne.symm h4)])
theorem afy(hs:listed.size=ops.size)(hn:Nat.blt 0 ops.size=true)(hI:mF listed env U)(hl:bm listed 0=false)(hi:pO[0]?=some (some t))(ht:(Nat.blt 6 t||t==0)=true)(hN:ed KF.N (some t)=true)(ho:o.dst=some t)(hg:o.guard=none)(hV:yc 0 (.bu 50))(hz:sC 0=true)
  (hf:(!(lM.map (·.1)).contains 0&&jV.all fun r=>r.ok 0&&!(r.id==50))=true)(aT:U.get 50=none→aq Tryz.prog o env U (.bu 50) ((50,.mp (aS fV eD []))::U)):rB listed env U 0 o ops:=by
 have be:0<listed.size:=by rw[hs];simpa[Nat.blt_eq]using hn
 rw[Bool.and_eq_true]at hf;refine⟨_,_,(t,.bu 50)::env,_,by rw[ho];exact hN,sG hg,aT (hI.yr.no hl).1,by rw[ho];exact Le.refl _ _ _,hI.aC.put AN be hi hV,hI.dR.put ht,hI.yr.make be hl (fun hm=>by have:=hf.1;rw[List.contains_iff_mem.2 hm]at this;cases this),fun r hr=>?_,zw hI.va be hz⟩;have h:=List.all_eq_true.1 hf.2 r hr;rw[Bool.and_eq_true]at h;obtain⟨h1,h2,h3⟩:=MQ.wD h.1;have h4:r.id≠50:=by simpa using h.2
 exact(hI.sq r hr).other be h1 h2 h3 (by rw[ae.aZ,if_neg (Ne.symm h4)])
theorem adF{k:Int}{v:kr}(hs:listed.size=ops.size)(hn:Nat.blt i ops.size=true)(Pl:ops.size=124)(hI:mF listed env U)(hl:bm listed i=false)(hi:pO[i]?=some none)(ho:o.dst=none)(hg:o.guard=none)(oQ:bm listed 0=true)(hm:(i,k)∈lM)(aB:(!(i==0)&&!(i==1000)&&jV.all fun r=>r.ok i&&!(r.id==50))=true)(nN:(lM.map (·.1)).Nodup)(tT:(lM.map (·.2)).Nodup)(hv:qf k v)(hz:sC i=true)
  (aT:∀m,U.get 50=some (.mp (aS fV eD m))→aq Tryz.prog o env U (.raw undef) (U.set 50 (.mp (aS fV eD (dm m k v))))):rB listed env U i o ops:=by
 have be:i<listed.size:=by rw[hs];simpa[Nat.blt_eq]using hn
 rw[Bool.and_eq_true,Bool.and_eq_true]at aB;have qA:bm listed 1000=false:=by unfold bm;rw[Array.getD_eq_getD_getElem?,Array.getElem?_eq_none zO];rfl
 obtain⟨m,g1,g2,g3⟩:=hI.yr.yes oQ qA;refine⟨_,_,env,_,by rw[ho];rfl,sG hg,aT m g1,by rw[ho];exact Le.refl _ _ _,hI.aC.none be hi,hI.dR,hI.yr.insert be hl (by simpa using aB.1.1) (by simpa using aB.1.2) hm nN tT g1 g2 g3 hv,fun r hr=>?_,zw hI.va be hz⟩;have h:=List.all_eq_true.1 aB.2 r hr;rw[Bool.and_eq_true]at h;obtain⟨h1,h2,h3⟩:=MQ.wD h.1;have h4:r.id≠50:=by simpa using h.2
 exact(hI.sq r hr).other be h1 h2 h3 (by rw[ae.dU,if_neg (Ne.symm h4)])
end
theorem cO.s3{E m:gV}(h:cO E m)(hE:∀p∈E,0≤p.1∧p.1<13):∀p∈m,0≤p.1∧p.1<13:=fun p hp=>hE p (h.2 p hp)
def yd(m:List (Int×kr)):Prop:=(m.map (·.1)).Perm (lM.map (·.2))∧∀p∈m,qf p.1 p.2
theorem yn(n i:Nat):bm (Array.replicate n false) i=false:=by
 unfold bm;rw[Array.getD_eq_getD_getElem?,Array.getElem?_replicate];split<;>rfl
theorem MD(n:Nat)(l:List (Nat×Int)):lz (Array.replicate n false) l=[]:=by
 unfold lz;rw[List.filter_eq_nil_iff.2 (fun e _=>by rw[yn];simp)];rfl
theorem adS{n:Nat}{env:Env}{U:ae}(h1:env.get 1=some (.aY [bC lP]))(h2:env.get 2=some (bC lL))(h3:env.get 3=some (.aY [.fn (.func 121) [] []]))(h4:env.get 4=some (.fn (.func 122) [] [.aY [.fn (.func 121) [] []],.aY [bC (some (true,false))]]))(h5:env.get 5=some (.fn (.func 123) [] []))(h6:env.get 6=some (cV eT))(ac1:(List.range 10).all (fun i=>(ae.get U (50+i)).isNone)=true)(hid:jV.all (fun q=>Nat.ble 50 q.id&&Nat.blt q.id 60)=true):mF (Array.replicate n false) env U:=by
 have ca:∀i,i<10→ae.get U (50+i)=none:=fun i hi=>by simpa using List.all_eq_true.1 ac1 i (List.mem_range.2 hi)
 refine⟨fun j t h=>?_,⟨h1,h2,h3,h4,h5,h6⟩,⟨fun _=>⟨ca 0 zD,MD _ _⟩,fun h=>?_⟩,fun q hq=>⟨fun _=>⟨?_,MD _ _⟩,fun h=>?_⟩,fun q hq h=>?_⟩
 ·rw[yn]at h;cases h
 ·rw[yn]at h;cases h
 ·have h0:=List.all_eq_true.1 hid q hq;rw[Bool.and_eq_true]at h0;have h1:=Nat.le_of_ble_eq_true h0.1;have h2:q.id<60:=by simpa[Nat.blt_eq]using h0.2
  have:=ca (q.id-50) zO;rwa[show 50+(q.id-50)=q.id by omega]at this
 ·rw[yn]at h;cases h
 ·rw[yn]at h;cases h
theorem Z4{listed:Array Bool}{env:Env}{U:ae}(hs:listed.size=124)(ez:∀i,i<124→bm listed i=true)(hI:mF listed env U):∃m,yd m∧Le KF env U [(0,tW fV eD m)] []:=by
 have qA:bm listed 1000=false:=by unfold bm;rw[Array.getD_eq_getD_getElem?,Array.getElem?_eq_none zO];rfl
 obtain⟨m,g1,g2,g3⟩:=hI.yr.yes (ez 0 zD) qA;have hd:lz listed lM=lM.map (·.2):=MC (fun e he=>ez e.1 (by
  have h1:lM.all (fun e=>Nat.blt e.1 124)=true:=by decide+kernel
  simpa[Nat.blt_eq]using List.all_eq_true.1 h1 e he))
 rw[hd]at g2;obtain⟨d,e1,e2⟩:=hI.aC 123 0 (ez 123 zD) rfl;have e2:d=.bu 50:=e2;subst e2;exact⟨m,⟨g2,g3⟩,(Le.C7 (kD:=fV) (vD:=eD) (m:=m) 0 50 e1 g1 (fun _=>rfl) aec).trans (Le.mk rfl (.s rfl rfl .nil) .nil)⟩
section
variable{ops:Array Oper} {listed:Array Bool} {env:Env} {U:ae} {i t:Nat} {o:Oper} {d:D}
theorem dq{listed:Array Bool}{o:Oper}(hd:∀e∈o.after,Region.binds .any e=true→bm listed e.on=true)(j:Nat)(h:(o.after.any fun e=>e.on==j&&Region.binds .any e)=true:=by decide+kernel):bm listed j=true:=dp hd j h
theorem bH(hs:listed.size=ops.size)(hI:mF listed env U)(hV:yc i d)(hq:aq Tryz.prog o env U d U)(hi:pO[i]?=some (some t):=by rfl)(ht:(Nat.blt 6 t||t==0)=true:=by rfl)(hN:ed KF.N (some t)=true:=by rfl)(ho:o.dst=some t:=by rfl)(hg:o.guard=none:=by rfl)
  (hn:Nat.blt i ops.size=true:=by decide+kernel)(hf:GZ i=true:=by decide+kernel)(hz:sC i=true:=by decide+kernel):rB listed env U i o ops:=ahC hs hn hI hi ht hN ho hg hV hf hz hq
theorem kc{k:Int}{v:kr}(hs:listed.size=ops.size)(hI:mF listed env U)(hl:bm listed i=false)(oQ:bm listed 0=true)(hv:qf k v)
  (aT:∀m,U.get 50=some (.mp (aS fV eD m))→aq Tryz.prog o env U (.raw undef) (U.set 50 (.mp (aS fV eD (dm m k v)))))(Pl:ops.size=124:=by rfl)(hi:pO[i]?=some none:=by rfl)(ho:o.dst=none:=by rfl)(hg:o.guard=none:=by rfl)
  (hn:Nat.blt i ops.size=true:=by decide+kernel)(hm:(i,k)∈lM:=by decide+kernel)(aB:(!(i==0)&&!(i==1000)&&jV.all fun r=>r.ok i&&!(r.id==50))=true:=by decide+kernel)(nN:(lM.map (·.1)).Nodup:=by decide+kernel)(tT:(lM.map (·.2)).Nodup:=by decide+kernel)(hz:sC i=true:=by decide+kernel):rB listed env U i o ops:=
 adF hs hn Pl hI hl hi ho hg oQ hm aB nN tT hv hz aT
theorem mq{q:MQ}{k:Int}{v:lY}(hs:listed.size=ops.size)(hI:mF listed env U)(hl:bm listed i=false)(oQ:bm listed q.bo=true)
  (aT:∀m,U.get q.id=some (.mp (aS fV bC m))→aq Tryz.prog o env U (.raw undef) (U.set q.id (.mp (aS fV bC (dm m k v)))))(hi:pO[i]?=some none:=by rfl)(ho:o.dst=none:=by rfl)(hg:o.guard=none:=by rfl)
  (hn:Nat.blt i ops.size=true:=by decide+kernel)(hq:q∈jV:=by exact jW zK)(hf:wE i q=true:=by decide+kernel)(hz:sC i=true:=by decide+kernel)(hm:(i,k)∈q.ins:=by decide+kernel)(aB:(!(i==q.bo)&&!(i==q.fz))=true:=by decide+kernel)(nN:(q.ins.map (·.1)).Nodup:=by decide+kernel)(tT:(q.ins.map (·.2)).Nodup:=by decide+kernel)(hv:(k,v)∈q.E:=by decide+kernel):rB listed env U i o ops:=
 adE hs hn hI hl hi ho hg hq hf oQ hz hm aB nN tT hv aT
end
set_option maxHeartbeats 6400000 in
theorem P6:xa Tryz.prog 87 [] yd (fun m=>tW fV eD m):=by
 refine xa.mk' [0] func87 rfl ntmps87 rfl rfl (fun _=>rfl) (fun t w=>results_tmp results87 t _ w) ?_;refine J.seq (J.af [.p] ?_);refine .ag rfl rfl<|.nil ?_;refine J.seq (J.af [.p,.p,.w,.w,.p] ?_);refine .P rfl (ai call120 rfl (zr _ _))<|.P rfl (ai call120 rfl (zr _ _))<|.W rfl (jE 0 zeroValue154 rfl)<|.W rfl (rn sizeOf154 rfl rfl rfl rfl zD)<|.ag rfl rfl<|.nil ?_;refine J.seq (J.af [.w,.w] ?_);refine .W rfl (jE 1 zeroValue156 rfl)<|.W rfl (rn sizeOf156 rfl rfl rfl rfl zD)<|.nil ?_;refine J.bP (Le.gg 3 1 rfl rfl rfl rfl) ?_;refine J.bP (Le.gg 1 0 rfl rfl rfl rfl) ?_;refine J.seq (J.af [.p,.p] ?_);refine .P rfl (JW (xs:=[]) (ys:=_) rfl rfl)<|.ag rfl rfl<|.nil ?_;refine J.seq (J.af [.p] ?_);refine .ag rfl rfl<|.nil ?_;refine J.seq (J.af [.w,.p,.w,.p,.w,.p,.w,.p,.p] ?_);refine .W rfl (kn 2 (fun n:Int=>D.raw (.int .i64 n)) (bC) rfl)<|.P rfl (bX isAgg154 rfl)<|.W rfl (aq.insert (dJ dW (vD:=bC) (k:=(4:Int)) (v:=lP) underlying119 rfl rfl rfl rfl rfl rfl))<|.mv rfl rfl<|.W rfl (aq.insert (dJ dW (vD:=bC) (k:=(5:Int)) (v:=lL) underlying119 rfl rfl rfl rfl rfl rfl))<|.mv rfl rfl<|.W rfl (aq.insert (dJ dW (vD:=bC) (k:=(6:Int)) (v:=lL) underlying119 rfl rfl rfl rfl rfl rfl))<|.mv rfl rfl<|.ag rfl rfl<|.nil ?_;refine J.bP (Le.C7 (kD:=(fun n:Int=>D.raw (.int .i64 n))) (vD:=bC) (m:=eT) 6 2 rfl rfl (fun _=>rfl) IJ) ?_;refine J.seq (J.aiu (A:=yd) (fE:=fun m=>[(0,tW fV eD m)]) (dl:=fun _=>[]) mF nC zK ?_ ?_ ?_ ?_)
 ·exact adS rfl rfl rfl rfl rfl rfl rfl zK
 ·exact⟨(fun _ _ _ hs hI hl hd=>afy hs zK hI hl rfl rfl rfl rfl rfl rfl zK zK (fun ca=>kn 50 fV eD ca)),
   (fun _ _ _ hs hI hl hd=>bH hs hI rfl (aX (by exact hI.dR.b4) _)),
   (fun _ _ _ hs hI hl hd=>by
    obtain⟨_,YQ,rfl⟩:=hI.aC 1 16 (dq hd 1) rfl;exact bH hs hI ⟨eA,cO.refl _,rfl⟩ (dX call122 (by exact YQ) rfl (zo _) _)),
   (fun _ _ _ hs hI hl hd=>by
    obtain⟨_,eR,rfl⟩:=hI.aC 0 15 (dq hd 0) rfl;obtain⟨_,YR,m17,n17,rfl⟩:=hI.aC 2 17 (dq hd 2) rfl;exact kc (k:=1) (v:=⟨[100,101,112,111,115,105,116],2,bS m17 [2],some m17,false⟩) hs hI hl (dq hd 0) ⟨_,rfl,rfl,rfl,rfl,m17,n17,rfl,rfl⟩ (fun M hM=>aq.insert (dJ dW (vD:=eD) (k:=(1:Int)) (v:=⟨[100,101,112,111,115,105,116],2,bS m17 [2],some m17,false⟩) underlying123 (by exact eR) rfl (by exact YR) rfl rfl hM))),
   (fun _ _ _ hs hI hl hd=>bH hs hI rfl (aX (by exact hI.dR.b4) _)),
   (fun _ _ _ hs hI hl hd=>by
    obtain⟨_,YS,rfl⟩:=hI.aC 4 18 (dq hd 4) rfl;exact bH hs hI ⟨eA,cO.refl _,rfl⟩ (dX call122 (by exact YS) rfl (zo _) _)),
   (fun _ _ _ hs hI hl hd=>by
    obtain⟨_,eR,rfl⟩:=hI.aC 0 15 (dq hd 0) rfl;obtain⟨_,YT,m19,n19,rfl⟩:=hI.aC 5 19 (dq hd 5) rfl;exact kc (k:=2) (v:=⟨[119,105,116,104,100,114,97,119],2,bS m19 [2],some m19,false⟩) hs hI hl (dq hd 0) ⟨_,rfl,rfl,rfl,rfl,m19,n19,rfl,rfl⟩ (fun M hM=>aq.insert (dJ dW (vD:=eD) (k:=(2:Int)) (v:=⟨[119,105,116,104,100,114,97,119],2,bS m19 [2],some m19,false⟩) underlying123 (by exact eR) rfl (by exact YT) rfl rfl hM))),
   (fun _ _ _ hs hI hl hd=>bH hs hI rfl (bX isAgg156 (by exact hI.dR.b3) _)),
   (fun _ _ _ hs hI hl hd=>bH hs hI rfl (aX (by exact hI.dR.b6) _)),
   (fun _ _ _ hs hI hl hd=>bH hs hI rfl (bI (n:=1) (rows:=[[D.i 0]]) underlying25 sizeOf3 rfl rfl rfl zeroValue3 rfl rfl rfl rfl rfl rfl rfl _)),
   (fun _ _ _ hs hI hl hd=>by
    obtain⟨_,YU,rfl⟩:=hI.aC 7 20 (dq hd 7) rfl;obtain⟨_,YV,rfl⟩:=hI.aC 8 21 (dq hd 8) rfl;obtain⟨_,YW,rfl⟩:=hI.aC 9 22 (dq hd 9) rfl;exact bH hs hI ⟨eT,cO.refl _,rfl⟩ (dX call121 (by exact YU) (cd rfl (cd rfl (cd (by exact YV) (cd (by exact YW) rfl)))) (oX _ _ eT [0] zD zD zD).sub _)),
   (fun _ _ _ hs hI hl hd=>by
    obtain⟨_,eR,rfl⟩:=hI.aC 0 15 (dq hd 0) rfl;obtain⟨_,YX,AU,n23,rfl⟩:=hI.aC 10 23 (dq hd 10) rfl;exact kc (k:=3) (v:=⟨[98,117,121],3,bS AU [0],some AU,false⟩) hs hI hl (dq hd 0) ⟨_,rfl,rfl,rfl,rfl,AU,n23,rfl,rfl⟩ (fun M hM=>aq.insert (dJ dW (vD:=eD) (k:=(3:Int)) (v:=⟨[98,117,121],3,bS AU [0],some AU,false⟩) underlying123 (by exact eR) rfl (by exact YX) rfl rfl hM))),
   (fun _ _ _ hs hI hl hd=>bH hs hI rfl (bX isAgg156 (by exact hI.dR.b3) _)),
   (fun _ _ _ hs hI hl hd=>bH hs hI rfl (aX (by exact hI.dR.b6) _)),
   (fun _ _ _ hs hI hl hd=>bH hs hI rfl (bI (n:=2) (rows:=[[D.i 0],[D.i 10]]) underlying25 sizeOf3 rfl rfl rfl zeroValue3 rfl rfl rfl rfl rfl rfl rfl _)),
   (fun _ _ _ hs hI hl hd=>by
    obtain⟨_,YY,rfl⟩:=hI.aC 12 24 (dq hd 12) rfl;obtain⟨_,YZ,rfl⟩:=hI.aC 13 25 (dq hd 13) rfl;obtain⟨_,Y0,rfl⟩:=hI.aC 14 26 (dq hd 14) rfl;exact bH hs hI ⟨eT,cO.refl _,rfl⟩ (dX call121 (by exact YY) (cd rfl (cd rfl (cd (by exact YZ) (cd (by exact Y0) rfl)))) (oX _ _ eT [0,10] zD zD zD).sub _)),
   (fun _ _ _ hs hI hl hd=>by
    obtain⟨_,eR,rfl⟩:=hI.aC 0 15 (dq hd 0) rfl;obtain⟨_,Y1,AV,n27,rfl⟩:=hI.aC 15 27 (dq hd 15) rfl;exact kc (k:=4) (v:=⟨[115,101,108,108],3,bS AV [0,10],some AV,false⟩) hs hI hl (dq hd 0) ⟨_,rfl,rfl,rfl,rfl,AV,n27,rfl,rfl⟩ (fun M hM=>aq.insert (dJ dW (vD:=eD) (k:=(4:Int)) (v:=⟨[115,101,108,108],3,bS AV [0,10],some AV,false⟩) underlying123 (by exact eR) rfl (by exact Y1) rfl rfl hM))),
   (fun _ _ _ hs hI hl hd=>bH hs hI rfl (bX isAgg156 (by exact hI.dR.b3) _)),
   (fun _ _ _ hs hI hl hd=>so (q:=kQ 0) hs zK hI hl rfl rfl rfl rfl rfl rfl (jW zK) zK rfl zK zK (fun ca=>kn 51 fV bC ca)),
   (fun _ _ _ hs hI hl hd=>bH hs hI rfl (bX isAgg154 (by exact hI.dR.b1) _)),
   (fun _ _ _ hs hI hl hd=>by
    obtain⟨_,Gn,rfl⟩:=hI.aC 18 29 (dq hd 18) rfl;obtain⟨_,Y3,rfl⟩:=hI.aC 19 30 (dq hd 19) rfl;exact mq (q:=kQ 0) (k:=7) (v:=lP) hs hI hl (dq hd 18) (fun M hM=>aq.insert (dJ dW (vD:=bC) (k:=(7:Int)) (v:=lP) underlying119 (by exact Gn) rfl (by exact Y3) rfl rfl hM))),
   (fun _ _ _ hs hI hl hd=>by
    obtain⟨_,Gn,rfl⟩:=hI.aC 18 29 (dq hd 18) rfl;exact rS (q:=kQ 0) hs zK hI hl rfl rfl rfl rfl rfl (jW zK) zK rfl (dq hd 18) ⟨dq hd 20,trivial⟩ zK (fun m hm=>⟨m,hm,rfl⟩) (aX (by exact Gn) _)),
   (fun _ _ _ hs hI hl hd=>bH hs hI rfl (bI (n:=1) (rows:=[[D.i 0]]) underlying25 sizeOf3 rfl rfl rfl zeroValue3 rfl rfl rfl rfl rfl rfl rfl _)),
   (fun _ _ _ hs hI hl hd=>by
    obtain⟨_,Y2,rfl⟩:=hI.aC 17 28 (dq hd 17) rfl;obtain⟨_,Y4,Qw,Q9,rfl⟩:=hI.aC 21 31 (dq hd 21) rfl;obtain⟨_,zJ,rfl⟩:=hI.aC 22 32 (dq hd 22) rfl;exact bH hs hI ⟨Qw,Q9,rfl⟩ (dX call121 (by exact Y2) (cd rfl (cd rfl (cd (by exact Y4) (cd (by exact zJ) rfl)))) (oX _ _ Qw [0] zD zD (cO.s3 Q9 zD)).sub _)),
   (fun _ _ _ hs hI hl hd=>by
    obtain⟨_,eR,rfl⟩:=hI.aC 0 15 (dq hd 0) rfl;obtain⟨_,Gp,AW,n33,rfl⟩:=hI.aC 23 33 (dq hd 23) rfl;exact kc (k:=5) (v:=⟨[105,110,99,111,109,101],1,bS AW [0],some AW,false⟩) hs hI hl (dq hd 0) ⟨_,rfl,rfl,rfl,rfl,AW,n33,rfl,rfl⟩ (fun M hM=>aq.insert (dJ dW (vD:=eD) (k:=(5:Int)) (v:=⟨[105,110,99,111,109,101],1,bS AW [0],some AW,false⟩) underlying123 (by exact eR) rfl (by exact Gp) rfl rfl hM))),
   (fun _ _ _ hs hI hl hd=>bH hs hI rfl (aX (by exact hI.dR.b4) _)),
   (fun _ _ _ hs hI hl hd=>by
    obtain⟨_,Gq,rfl⟩:=hI.aC 25 34 (dq hd 25) rfl;exact bH hs hI ⟨eA,cO.refl _,rfl⟩ (dX call122 (by exact Gq) rfl (zo _) _)),
   (fun _ _ _ hs hI hl hd=>by
    obtain⟨_,eR,rfl⟩:=hI.aC 0 15 (dq hd 0) rfl;obtain⟨_,Gr,AX,n35,rfl⟩:=hI.aC 26 35 (dq hd 26) rfl;exact kc (k:=6) (v:=⟨[101,120,112,101,110,115,101],2,bS AX [2],some AX,false⟩) hs hI hl (dq hd 0) ⟨_,rfl,rfl,rfl,rfl,AX,n35,rfl,rfl⟩ (fun M hM=>aq.insert (dJ dW (vD:=eD) (k:=(6:Int)) (v:=⟨[101,120,112,101,110,115,101],2,bS AX [2],some AX,false⟩) underlying123 (by exact eR) rfl (by exact Gr) rfl rfl hM))),
   (fun _ _ _ hs hI hl hd=>bH hs hI rfl (aX (by exact hI.dR.b5) _)),
   (fun _ _ _ hs hI hl hd=>bH hs hI rfl (bX isAgg156 (by exact hI.dR.b3) _)),
   (fun _ _ _ hs hI hl hd=>so (q:=kQ 1) hs zK hI hl rfl rfl rfl rfl rfl rfl (jW zK) zK rfl zK zK (fun ca=>kn 52 fV bC ca)),
   (fun _ _ _ hs hI hl hd=>bH hs hI rfl (bX isAgg154 (by exact hI.dR.b1) _)),
   (fun _ _ _ hs hI hl hd=>by
    obtain⟨_,vk,rfl⟩:=hI.aC 30 38 (dq hd 30) rfl;obtain⟨_,Y5,rfl⟩:=hI.aC 31 39 (dq hd 31) rfl;exact mq (q:=kQ 1) (k:=4) (v:=lP) hs hI hl (dq hd 30) (fun M hM=>aq.insert (dJ dW (vD:=bC) (k:=(4:Int)) (v:=lP) underlying119 (by exact vk) rfl (by exact Y5) rfl rfl hM))),
   (fun _ _ _ hs hI hl hd=>bH hs hI rfl (bX isAgg154 (by exact hI.dR.b1) _)),
   (fun _ _ _ hs hI hl hd=>by
    obtain⟨_,vk,rfl⟩:=hI.aC 30 38 (dq hd 30) rfl;obtain⟨_,Y6,rfl⟩:=hI.aC 33 40 (dq hd 33) rfl;exact mq (q:=kQ 1) (k:=5) (v:=lP) hs hI hl (dq hd 30) (fun M hM=>aq.insert (dJ dW (vD:=bC) (k:=(5:Int)) (v:=lP) underlying119 (by exact vk) rfl (by exact Y6) rfl rfl hM))),
   (fun _ _ _ hs hI hl hd=>by
    obtain⟨_,vk,rfl⟩:=hI.aC 30 38 (dq hd 30) rfl;exact rS (q:=kQ 1) hs zK hI hl rfl rfl rfl rfl rfl (jW zK) zK rfl (dq hd 30) ⟨dq hd 32,dq hd 34,trivial⟩ zK (fun m hm=>⟨m,hm,rfl⟩) (aX (by exact vk) _)),
   (fun _ _ _ hs hI hl hd=>bH hs hI rfl (bI (n:=2) (rows:=[[D.i 1],[D.i 2]]) underlying25 sizeOf3 rfl rfl rfl zeroValue3 rfl rfl rfl rfl rfl rfl rfl _)),
   (fun _ _ _ hs hI hl hd=>by
    obtain⟨_,Gt,rfl⟩:=hI.aC 29 37 (dq hd 29) rfl;obtain⟨_,Y7,Qx,Q_,rfl⟩:=hI.aC 35 41 (dq hd 35) rfl;obtain⟨_,Y8,rfl⟩:=hI.aC 36 42 (dq hd 36) rfl;exact bH hs hI ⟨Qx,Q_,rfl⟩ (dX call121 (by exact Gt) (cd rfl (cd rfl (cd (by exact Y7) (cd (by exact Y8) rfl)))) (oX _ _ Qx [1,2] zD zD (cO.s3 Q_ zD)).sub _)),
   (fun _ _ _ hs hI hl hd=>by
    obtain⟨_,Gs,rfl⟩:=hI.aC 28 36 (dq hd 28) rfl;obtain⟨_,Y9,Qy,n43,rfl⟩:=hI.aC 37 43 (dq hd 37) rfl;exact bH hs hI ⟨Qy,n43,rfl⟩ (dX call123 (by exact Gs) (cd (by exact Y9) rfl) (UA _ _ _ Qy) _)),
   (fun _ _ _ hs hI hl hd=>by
    obtain⟨_,eR,rfl⟩:=hI.aC 0 15 (dq hd 0) rfl;obtain⟨_,Y_,AY,n44,rfl⟩:=hI.aC 38 44 (dq hd 38) rfl;exact kc (k:=7) (v:=⟨[99,111,110,118,101,114,116],2,bS AY [1,2],some AY,true⟩) hs hI hl (dq hd 0) ⟨_,rfl,rfl,rfl,rfl,AY,n44,rfl,rfl⟩ (fun M hM=>aq.insert (dJ dW (vD:=eD) (k:=(7:Int)) (v:=⟨[99,111,110,118,101,114,116],2,bS AY [1,2],some AY,true⟩) underlying123 (by exact eR) rfl (by exact Y_) rfl rfl hM))),
   (fun _ _ _ hs hI hl hd=>bH hs hI rfl (bX isAgg156 (by exact hI.dR.b3) _)),
   (fun _ _ _ hs hI hl hd=>so (q:=kQ 2) hs zK hI hl rfl rfl rfl rfl rfl rfl (jW zK) zK rfl zK zK (fun ca=>kn 53 fV bC ca)),
   (fun _ _ _ hs hI hl hd=>bH hs hI rfl (aX (by exact hI.dR.b2) _)),
   (fun _ _ _ hs hI hl hd=>by
    obtain⟨_,zL,rfl⟩:=hI.aC 41 46 (dq hd 41) rfl;obtain⟨_,Za,rfl⟩:=hI.aC 42 47 (dq hd 42) rfl;exact mq (q:=kQ 2) (k:=7) (v:=lL) hs hI hl (dq hd 41) (fun M hM=>aq.insert (dJ dW (vD:=bC) (k:=(7:Int)) (v:=lL) underlying119 (by exact zL) rfl (by exact Za) rfl rfl hM))),
   (fun _ _ _ hs hI hl hd=>bH hs hI rfl (bX isAgg154 (by exact hI.dR.b1) _)),
   (fun _ _ _ hs hI hl hd=>by
    obtain⟨_,zL,rfl⟩:=hI.aC 41 46 (dq hd 41) rfl;obtain⟨_,Zb,rfl⟩:=hI.aC 44 48 (dq hd 44) rfl;exact mq (q:=kQ 2) (k:=8) (v:=lP) hs hI hl (dq hd 41) (fun M hM=>aq.insert (dJ dW (vD:=bC) (k:=(8:Int)) (v:=lP) underlying119 (by exact zL) rfl (by exact Zb) rfl rfl hM))),
   (fun _ _ _ hs hI hl hd=>by
    obtain⟨_,zL,rfl⟩:=hI.aC 41 46 (dq hd 41) rfl;exact rS (q:=kQ 2) hs zK hI hl rfl rfl rfl rfl rfl (jW zK) zK rfl (dq hd 41) ⟨dq hd 43,dq hd 45,trivial⟩ zK (fun m hm=>⟨m,hm,rfl⟩) (aX (by exact zL) _)),
   (fun _ _ _ hs hI hl hd=>bH hs hI rfl (bI (n:=1) (rows:=[[D.i 0]]) underlying25 sizeOf3 rfl rfl rfl zeroValue3 rfl rfl rfl rfl rfl rfl rfl _)),
   (fun _ _ _ hs hI hl hd=>by
    obtain⟨_,Y',rfl⟩:=hI.aC 40 45 (dq hd 40) rfl;obtain⟨_,Zc,Qz,Ra,rfl⟩:=hI.aC 46 49 (dq hd 46) rfl;obtain⟨_,Zd,rfl⟩:=hI.aC 47 50 (dq hd 47) rfl;exact bH hs hI ⟨Qz,Ra,rfl⟩ (dX call121 (by exact Y') (cd rfl (cd rfl (cd (by exact Zc) (cd (by exact Zd) rfl)))) (oX _ _ Qz [0] zD zD (cO.s3 Ra zD)).sub _)),
   (fun _ _ _ hs hI hl hd=>by
    obtain⟨_,eR,rfl⟩:=hI.aC 0 15 (dq hd 0) rfl;obtain⟨_,Ze,AZ,n51,rfl⟩:=hI.aC 48 51 (dq hd 48) rfl;exact kc (k:=8) (v:=⟨[115,112,108,105,116],1,bS AZ [0],some AZ,false⟩) hs hI hl (dq hd 0) ⟨_,rfl,rfl,rfl,rfl,AZ,n51,rfl,rfl⟩ (fun M hM=>aq.insert (dJ dW (vD:=eD) (k:=(8:Int)) (v:=⟨[115,112,108,105,116],1,bS AZ [0],some AZ,false⟩) underlying123 (by exact eR) rfl (by exact Ze) rfl rfl hM))),
   (fun _ _ _ hs hI hl hd=>bH hs hI rfl (bX isAgg156 (by exact hI.dR.b3) _)),
   (fun _ _ _ hs hI hl hd=>so (q:=kQ 3) hs zK hI hl rfl rfl rfl rfl rfl rfl (jW zK) zK rfl zK zK (fun ca=>kn 54 fV bC ca)),
   (fun _ _ _ hs hI hl hd=>bH hs hI rfl (aX (by exact hI.dR.b2) _)),
   (fun _ _ _ hs hI hl hd=>by
    obtain⟨_,vl,rfl⟩:=hI.aC 51 53 (dq hd 51) rfl;obtain⟨_,Zg,rfl⟩:=hI.aC 52 54 (dq hd 52) rfl;exact mq (q:=kQ 3) (k:=7) (v:=lL) hs hI hl (dq hd 51) (fun M hM=>aq.insert (dJ dW (vD:=bC) (k:=(7:Int)) (v:=lL) underlying119 (by exact vl) rfl (by exact Zg) rfl rfl hM))),
   (fun _ _ _ hs hI hl hd=>bH hs hI rfl (bX isAgg154 (by exact hI.dR.b1) _)),
   (fun _ _ _ hs hI hl hd=>by
    obtain⟨_,vl,rfl⟩:=hI.aC 51 53 (dq hd 51) rfl;obtain⟨_,Zh,rfl⟩:=hI.aC 54 55 (dq hd 54) rfl;exact mq (q:=kQ 3) (k:=8) (v:=lP) hs hI hl (dq hd 51) (fun M hM=>aq.insert (dJ dW (vD:=bC) (k:=(8:Int)) (v:=lP) underlying119 (by exact vl) rfl (by exact Zh) rfl rfl hM))),
   (fun _ _ _ hs hI hl hd=>bH hs hI rfl (ai call120 rfl (zr false true) _)),
   (fun _ _ _ hs hI hl hd=>by
    obtain⟨_,vl,rfl⟩:=hI.aC 51 53 (dq hd 51) rfl;obtain⟨_,Zi,rfl⟩:=hI.aC 56 56 (dq hd 56) rfl;exact mq (q:=kQ 3) (k:=9) (v:=lQ) hs hI hl (dq hd 51) (fun M hM=>aq.insert (dJ dW (vD:=bC) (k:=(9:Int)) (v:=lQ) underlying119 (by exact vl) rfl (by exact Zi) rfl rfl hM))),
   (fun _ _ _ hs hI hl hd=>by
    obtain⟨_,vl,rfl⟩:=hI.aC 51 53 (dq hd 51) rfl;exact rS (q:=kQ 3) hs zK hI hl rfl rfl rfl rfl rfl (jW zK) zK rfl (dq hd 51) ⟨dq hd 53,dq hd 55,dq hd 57,trivial⟩ zK (fun m hm=>⟨m,hm,rfl⟩) (aX (by exact vl) _)),
   (fun _ _ _ hs hI hl hd=>bH hs hI rfl (bI (n:=2) (rows:=[[D.i 0],[D.i 1]]) underlying25 sizeOf3 rfl rfl rfl zeroValue3 rfl rfl rfl rfl rfl rfl rfl _)),
   (fun _ _ _ hs hI hl hd=>by
    obtain⟨_,Zf,rfl⟩:=hI.aC 50 52 (dq hd 50) rfl;obtain⟨_,Zj,QA,Rb,rfl⟩:=hI.aC 58 57 (dq hd 58) rfl;obtain⟨_,Zk,rfl⟩:=hI.aC 59 58 (dq hd 59) rfl;exact bH hs hI ⟨QA,Rb,rfl⟩ (dX call121 (by exact Zf) (cd rfl (cd rfl (cd (by exact Zj) (cd (by exact Zk) rfl)))) (oX _ _ QA [0,1] zD zD (cO.s3 Rb zD)).sub _)),
   (fun _ _ _ hs hI hl hd=>by
    obtain⟨_,eR,rfl⟩:=hI.aC 0 15 (dq hd 0) rfl;obtain⟨_,Zl,A0,n59,rfl⟩:=hI.aC 60 59 (dq hd 60) rfl;exact kc (k:=9) (v:=⟨[115,112,105,110,111,102,102],1,bS A0 [0,1],some A0,false⟩) hs hI hl (dq hd 0) ⟨_,rfl,rfl,rfl,rfl,A0,n59,rfl,rfl⟩ (fun M hM=>aq.insert (dJ dW (vD:=eD) (k:=(9:Int)) (v:=⟨[115,112,105,110,111,102,102],1,bS A0 [0,1],some A0,false⟩) underlying123 (by exact eR) rfl (by exact Zl) rfl rfl hM))),
   (fun _ _ _ hs hI hl hd=>bH hs hI rfl (bX isAgg156 (by exact hI.dR.b3) _)),
   (fun _ _ _ hs hI hl hd=>bH hs hI rfl (bI (n:=2) (rows:=[[D.i 0],[D.i 11]]) underlying25 sizeOf3 rfl rfl rfl zeroValue3 rfl rfl rfl rfl rfl rfl rfl _)),
   (fun _ _ _ hs hI hl hd=>by
    obtain⟨_,Zm,rfl⟩:=hI.aC 62 60 (dq hd 62) rfl;obtain⟨_,Zn,rfl⟩:=hI.aC 63 61 (dq hd 63) rfl;exact bH hs hI rfl (dX call121 (by exact Zm) (cd rfl (cd rfl (cd rfl (cd (by exact Zn) rfl)))) (P4 _ _ [0,11] zD zD).sub _)),
   (fun _ _ _ hs hI hl hd=>by
    obtain⟨_,eR,rfl⟩:=hI.aC 0 15 (dq hd 0) rfl;obtain⟨_,Zo,rfl⟩:=hI.aC 64 62 (dq hd 64) rfl;exact kc (k:=10) (v:=⟨[101,120,99,104,97,110,103,101],1,bS [] [0,11],none,false⟩) hs hI hl (dq hd 0) ⟨_,rfl,rfl,rfl,rfl,rfl,rfl⟩ (fun M hM=>aq.insert (dJ dW (vD:=eD) (k:=(10:Int)) (v:=⟨[101,120,99,104,97,110,103,101],1,bS [] [0,11],none,false⟩) underlying123 (by exact eR) rfl (by exact Zo) rfl rfl hM))),
   (fun _ _ _ hs hI hl hd=>bH hs hI rfl (bX isAgg156 (by exact hI.dR.b3) _)),
   (fun _ _ _ hs hI hl hd=>bH hs hI rfl (bI (n:=3) (rows:=[[D.i 0],[D.i 3],[D.i 12]]) underlying25 sizeOf3 rfl rfl rfl zeroValue3 rfl rfl rfl rfl rfl rfl rfl _)),
   (fun _ _ _ hs hI hl hd=>by
    obtain⟨_,Zp,rfl⟩:=hI.aC 66 63 (dq hd 66) rfl;obtain⟨_,Zq,rfl⟩:=hI.aC 67 64 (dq hd 67) rfl;exact bH hs hI rfl (dX call121 (by exact Zp) (cd rfl (cd rfl (cd rfl (cd (by exact Zq) rfl)))) (P4 _ _ [0,3,12] zD zD).sub _)),
   (fun _ _ _ hs hI hl hd=>by
    obtain⟨_,eR,rfl⟩:=hI.aC 0 15 (dq hd 0) rfl;obtain⟨_,Zr,rfl⟩:=hI.aC 68 65 (dq hd 68) rfl;exact kc (k:=11) (v:=⟨[101,108,101,99,116],4,bS [] [0,3,12],none,false⟩) hs hI hl (dq hd 0) ⟨_,rfl,rfl,rfl,rfl,rfl,rfl⟩ (fun M hM=>aq.insert (dJ dW (vD:=eD) (k:=(11:Int)) (v:=⟨[101,108,101,99,116],4,bS [] [0,3,12],none,false⟩) underlying123 (by exact eR) rfl (by exact Zr) rfl rfl hM))),
   (fun _ _ _ hs hI hl hd=>bH hs hI rfl (bX isAgg156 (by exact hI.dR.b3) _)),
   (fun _ _ _ hs hI hl hd=>so (q:=kQ 4) hs zK hI hl rfl rfl rfl rfl rfl rfl (jW zK) zK rfl zK zK (fun ca=>kn 55 fV bC ca)),
   (fun _ _ _ hs hI hl hd=>bH hs hI rfl (bX isAgg154 (by exact hI.dR.b1) _)),
   (fun _ _ _ hs hI hl hd=>by
    obtain⟨_,vm,rfl⟩:=hI.aC 71 67 (dq hd 71) rfl;obtain⟨_,Zt,rfl⟩:=hI.aC 72 68 (dq hd 72) rfl;exact mq (q:=kQ 4) (k:=4) (v:=lP) hs hI hl (dq hd 71) (fun M hM=>aq.insert (dJ dW (vD:=bC) (k:=(4:Int)) (v:=lP) underlying119 (by exact vm) rfl (by exact Zt) rfl rfl hM))),
   (fun _ _ _ hs hI hl hd=>bH hs hI rfl (aX (by exact hI.dR.b2) _)),
   (fun _ _ _ hs hI hl hd=>by
    obtain⟨_,vm,rfl⟩:=hI.aC 71 67 (dq hd 71) rfl;obtain⟨_,Zu,rfl⟩:=hI.aC 74 69 (dq hd 74) rfl;exact mq (q:=kQ 4) (k:=7) (v:=lL) hs hI hl (dq hd 71) (fun M hM=>aq.insert (dJ dW (vD:=bC) (k:=(7:Int)) (v:=lL) underlying119 (by exact vm) rfl (by exact Zu) rfl rfl hM))),
   (fun _ _ _ hs hI hl hd=>bH hs hI rfl (bX isAgg154 (by exact hI.dR.b1) _)),
   (fun _ _ _ hs hI hl hd=>by
    obtain⟨_,vm,rfl⟩:=hI.aC 71 67 (dq hd 71) rfl;obtain⟨_,Zv,rfl⟩:=hI.aC 76 70 (dq hd 76) rfl;exact mq (q:=kQ 4) (k:=8) (v:=lP) hs hI hl (dq hd 71) (fun M hM=>aq.insert (dJ dW (vD:=bC) (k:=(8:Int)) (v:=lP) underlying119 (by exact vm) rfl (by exact Zv) rfl rfl hM))),
   (fun _ _ _ hs hI hl hd=>by
    obtain⟨_,vm,rfl⟩:=hI.aC 71 67 (dq hd 71) rfl;exact rS (q:=kQ 4) hs zK hI hl rfl rfl rfl rfl rfl (jW zK) zK rfl (dq hd 71) ⟨dq hd 73,dq hd 75,dq hd 77,trivial⟩ zK (fun m hm=>⟨m,hm,rfl⟩) (aX (by exact vm) _)),
   (fun _ _ _ hs hI hl hd=>bH hs hI rfl (bI (n:=2) (rows:=[[D.i 0],[D.i 1]]) underlying25 sizeOf3 rfl rfl rfl zeroValue3 rfl rfl rfl rfl rfl rfl rfl _)),
   (fun _ _ _ hs hI hl hd=>by
    obtain⟨_,Zs,rfl⟩:=hI.aC 70 66 (dq hd 70) rfl;obtain⟨_,Zw,QB,Rc,rfl⟩:=hI.aC 78 71 (dq hd 78) rfl;obtain⟨_,Zx,rfl⟩:=hI.aC 79 72 (dq hd 79) rfl;exact bH hs hI ⟨QB,Rc,rfl⟩ (dX call121 (by exact Zs) (cd rfl (cd rfl (cd (by exact Zw) (cd (by exact Zx) rfl)))) (oX _ _ QB [0,1] zD zD (cO.s3 Rc zD)).sub _)),
   (fun _ _ _ hs hI hl hd=>by
    obtain⟨_,eR,rfl⟩:=hI.aC 0 15 (dq hd 0) rfl;obtain⟨_,Zy,A1,n73,rfl⟩:=hI.aC 80 73 (dq hd 80) rfl;exact kc (k:=12) (v:=⟨[101,120,101,114,99,105,115,101],3,bS A1 [0,1],some A1,false⟩) hs hI hl (dq hd 0) ⟨_,rfl,rfl,rfl,rfl,A1,n73,rfl,rfl⟩ (fun M hM=>aq.insert (dJ dW (vD:=eD) (k:=(12:Int)) (v:=⟨[101,120,101,114,99,105,115,101],3,bS A1 [0,1],some A1,false⟩) underlying123 (by exact eR) rfl (by exact Zy) rfl rfl hM))),
   (fun _ _ _ hs hI hl hd=>bH hs hI rfl (bX isAgg156 (by exact hI.dR.b3) _)),
   (fun _ _ _ hs hI hl hd=>so (q:=kQ 5) hs zK hI hl rfl rfl rfl rfl rfl rfl (jW zK) zK rfl zK zK (fun ca=>kn 56 fV bC ca)),
   (fun _ _ _ hs hI hl hd=>bH hs hI rfl (bX isAgg154 (by exact hI.dR.b1) _)),
   (fun _ _ _ hs hI hl hd=>by
    obtain⟨_,Gu,rfl⟩:=hI.aC 83 75 (dq hd 83) rfl;obtain⟨_,ZA,rfl⟩:=hI.aC 84 76 (dq hd 84) rfl;exact mq (q:=kQ 5) (k:=7) (v:=lP) hs hI hl (dq hd 83) (fun M hM=>aq.insert (dJ dW (vD:=bC) (k:=(7:Int)) (v:=lP) underlying119 (by exact Gu) rfl (by exact ZA) rfl rfl hM))),
   (fun _ _ _ hs hI hl hd=>by
    obtain⟨_,Gu,rfl⟩:=hI.aC 83 75 (dq hd 83) rfl;exact rS (q:=kQ 5) hs zK hI hl rfl rfl rfl rfl rfl (jW zK) zK rfl (dq hd 83) ⟨dq hd 85,trivial⟩ zK (fun m hm=>⟨m,hm,rfl⟩) (aX (by exact Gu) _)),
   (fun _ _ _ hs hI hl hd=>bH hs hI rfl (bI (n:=1) (rows:=[[D.i 0]]) underlying25 sizeOf3 rfl rfl rfl zeroValue3 rfl rfl rfl rfl rfl rfl rfl _)),
   (fun _ _ _ hs hI hl hd=>by
    obtain⟨_,Zz,rfl⟩:=hI.aC 82 74 (dq hd 82) rfl;obtain⟨_,ZB,QC,Re,rfl⟩:=hI.aC 86 77 (dq hd 86) rfl;obtain⟨_,ZC,rfl⟩:=hI.aC 87 78 (dq hd 87) rfl;exact bH hs hI ⟨QC,Re,rfl⟩ (dX call121 (by exact Zz) (cd rfl (cd rfl (cd (by exact ZB) (cd (by exact ZC) rfl)))) (oX _ _ QC [0] zD zD (cO.s3 Re zD)).sub _)),
   (fun _ _ _ hs hI hl hd=>by
    obtain⟨_,eR,rfl⟩:=hI.aC 0 15 (dq hd 0) rfl;obtain⟨_,ZD,A2,n79,rfl⟩:=hI.aC 88 79 (dq hd 88) rfl;exact kc (k:=13) (v:=⟨[99,97,112,105,116,97,108],1,bS A2 [0],some A2,false⟩) hs hI hl (dq hd 0) ⟨_,rfl,rfl,rfl,rfl,A2,n79,rfl,rfl⟩ (fun M hM=>aq.insert (dJ dW (vD:=eD) (k:=(13:Int)) (v:=⟨[99,97,112,105,116,97,108],1,bS A2 [0],some A2,false⟩) underlying123 (by exact eR) rfl (by exact ZD) rfl rfl hM))),
   (fun _ _ _ hs hI hl hd=>bH hs hI rfl (bX isAgg156 (by exact hI.dR.b3) _)),
   (fun _ _ _ hs hI hl hd=>so (q:=kQ 6) hs zK hI hl rfl rfl rfl rfl rfl rfl (jW zK) zK rfl zK zK (fun ca=>kn 57 fV bC ca)),
   (fun _ _ _ hs hI hl hd=>bH hs hI rfl (aX (by exact hI.dR.b2) _)),
   (fun _ _ _ hs hI hl hd=>by
    obtain⟨_,Gv,rfl⟩:=hI.aC 91 81 (dq hd 91) rfl;obtain⟨_,ZF,rfl⟩:=hI.aC 92 82 (dq hd 92) rfl;exact mq (q:=kQ 6) (k:=7) (v:=lL) hs hI hl (dq hd 91) (fun M hM=>aq.insert (dJ dW (vD:=bC) (k:=(7:Int)) (v:=lL) underlying119 (by exact Gv) rfl (by exact ZF) rfl rfl hM))),
   (fun _ _ _ hs hI hl hd=>by
    obtain⟨_,Gv,rfl⟩:=hI.aC 91 81 (dq hd 91) rfl;exact rS (q:=kQ 6) hs zK hI hl rfl rfl rfl rfl rfl (jW zK) zK rfl (dq hd 91) ⟨dq hd 93,trivial⟩ zK (fun m hm=>⟨m,hm,rfl⟩) (aX (by exact Gv) _)),
   (fun _ _ _ hs hI hl hd=>bH hs hI rfl (bI (n:=1) (rows:=[[D.i 0]]) underlying25 sizeOf3 rfl rfl rfl zeroValue3 rfl rfl rfl rfl rfl rfl rfl _)),
   (fun _ _ _ hs hI hl hd=>by
    obtain⟨_,ZE,rfl⟩:=hI.aC 90 80 (dq hd 90) rfl;obtain⟨_,ZG,QD,Rf,rfl⟩:=hI.aC 94 83 (dq hd 94) rfl;obtain⟨_,ZH,rfl⟩:=hI.aC 95 84 (dq hd 95) rfl;exact bH hs hI ⟨QD,Rf,rfl⟩ (dX call121 (by exact ZE) (cd rfl (cd rfl (cd (by exact ZG) (cd (by exact ZH) rfl)))) (oX _ _ QD [0] zD zD (cO.s3 Rf zD)).sub _)),
   (fun _ _ _ hs hI hl hd=>by
    obtain⟨_,eR,rfl⟩:=hI.aC 0 15 (dq hd 0) rfl;obtain⟨_,ZI,A3,n85,rfl⟩:=hI.aC 96 85 (dq hd 96) rfl;exact kc (k:=14) (v:=⟨[99,97,108,108],1,bS A3 [0],some A3,false⟩) hs hI hl (dq hd 0) ⟨_,rfl,rfl,rfl,rfl,A3,n85,rfl,rfl⟩ (fun M hM=>aq.insert (dJ dW (vD:=eD) (k:=(14:Int)) (v:=⟨[99,97,108,108],1,bS A3 [0],some A3,false⟩) underlying123 (by exact eR) rfl (by exact ZI) rfl rfl hM))),
   (fun _ _ _ hs hI hl hd=>bH hs hI rfl (bX isAgg156 (by exact hI.dR.b3) _)),
   (fun _ _ _ hs hI hl hd=>so (q:=kQ 7) hs zK hI hl rfl rfl rfl rfl rfl rfl (jW zK) zK rfl zK zK (fun ca=>kn 58 fV bC ca)),
   (fun _ _ _ hs hI hl hd=>bH hs hI rfl (aX (by exact hI.dR.b2) _)),
   (fun _ _ _ hs hI hl hd=>by
    obtain⟨_,Gw,rfl⟩:=hI.aC 99 87 (dq hd 99) rfl;obtain⟨_,ZK,rfl⟩:=hI.aC 100 88 (dq hd 100) rfl;exact mq (q:=kQ 7) (k:=7) (v:=lL) hs hI hl (dq hd 99) (fun M hM=>aq.insert (dJ dW (vD:=bC) (k:=(7:Int)) (v:=lL) underlying119 (by exact Gw) rfl (by exact ZK) rfl rfl hM))),
   (fun _ _ _ hs hI hl hd=>by
    obtain⟨_,Gw,rfl⟩:=hI.aC 99 87 (dq hd 99) rfl;exact rS (q:=kQ 7) hs zK hI hl rfl rfl rfl rfl rfl (jW zK) zK rfl (dq hd 99) ⟨dq hd 101,trivial⟩ zK (fun m hm=>⟨m,hm,rfl⟩) (aX (by exact Gw) _)),
   (fun _ _ _ hs hI hl hd=>bH hs hI rfl (bI (n:=1) (rows:=[[D.i 0]]) underlying25 sizeOf3 rfl rfl rfl zeroValue3 rfl rfl rfl rfl rfl rfl rfl _)),
   (fun _ _ _ hs hI hl hd=>by
    obtain⟨_,ZJ,rfl⟩:=hI.aC 98 86 (dq hd 98) rfl;obtain⟨_,ZL,QE,Rg,rfl⟩:=hI.aC 102 89 (dq hd 102) rfl;obtain⟨_,ZM,rfl⟩:=hI.aC 103 90 (dq hd 103) rfl;exact bH hs hI ⟨QE,Rg,rfl⟩ (dX call121 (by exact ZJ) (cd rfl (cd rfl (cd (by exact ZL) (cd (by exact ZM) rfl)))) (oX _ _ QE [0] zD zD (cO.s3 Rg zD)).sub _)),
   (fun _ _ _ hs hI hl hd=>by
    obtain⟨_,eR,rfl⟩:=hI.aC 0 15 (dq hd 0) rfl;obtain⟨_,ZN,A4,n91,rfl⟩:=hI.aC 104 91 (dq hd 104) rfl;exact kc (k:=15) (v:=⟨[112,114,105,99,101],4,bS A4 [0],some A4,false⟩) hs hI hl (dq hd 0) ⟨_,rfl,rfl,rfl,rfl,A4,n91,rfl,rfl⟩ (fun M hM=>aq.insert (dJ dW (vD:=eD) (k:=(15:Int)) (v:=⟨[112,114,105,99,101],4,bS A4 [0],some A4,false⟩) underlying123 (by exact eR) rfl (by exact ZN) rfl rfl hM))),
   (fun _ _ _ hs hI hl hd=>bH hs hI rfl (aX (by exact hI.dR.b5) _)),
   (fun _ _ _ hs hI hl hd=>bH hs hI rfl (bX isAgg156 (by exact hI.dR.b3) _)),
   (fun _ _ _ hs hI hl hd=>so (q:=kQ 8) hs zK hI hl rfl rfl rfl rfl rfl rfl (jW zK) zK rfl zK zK (fun ca=>kn 59 fV bC ca)),
   (fun _ _ _ hs hI hl hd=>bH hs hI rfl (bX isAgg154 (by exact hI.dR.b1) _)),
   (fun _ _ _ hs hI hl hd=>by
    obtain⟨_,Gx,rfl⟩:=hI.aC 108 94 (dq hd 108) rfl;obtain⟨_,ZQ,rfl⟩:=hI.aC 109 95 (dq hd 109) rfl;exact mq (q:=kQ 8) (k:=8) (v:=lP) hs hI hl (dq hd 108) (fun M hM=>aq.insert (dJ dW (vD:=bC) (k:=(8:Int)) (v:=lP) underlying119 (by exact Gx) rfl (by exact ZQ) rfl rfl hM))),
   (fun _ _ _ hs hI hl hd=>by
    obtain⟨_,Gx,rfl⟩:=hI.aC 108 94 (dq hd 108) rfl;exact rS (q:=kQ 8) hs zK hI hl rfl rfl rfl rfl rfl (jW zK) zK rfl (dq hd 108) ⟨dq hd 110,trivial⟩ zK (fun m hm=>⟨m,hm,rfl⟩) (aX (by exact Gx) _)),
   (fun _ _ _ hs hI hl hd=>bH hs hI rfl (bI (n:=2) (rows:=[[D.i 1],[D.i 2]]) underlying25 sizeOf3 rfl rfl rfl zeroValue3 rfl rfl rfl rfl rfl rfl rfl _)),
   (fun _ _ _ hs hI hl hd=>by
    obtain⟨_,ZP,rfl⟩:=hI.aC 107 93 (dq hd 107) rfl;obtain⟨_,ZR,QF,Rh,rfl⟩:=hI.aC 111 96 (dq hd 111) rfl;obtain⟨_,ZS,rfl⟩:=hI.aC 112 97 (dq hd 112) rfl;exact bH hs hI ⟨QF,Rh,rfl⟩ (dX call121 (by exact ZP) (cd rfl (cd rfl (cd (by exact ZR) (cd (by exact ZS) rfl)))) (oX _ _ QF [1,2] zD zD (cO.s3 Rh zD)).sub _)),
   (fun _ _ _ hs hI hl hd=>by
    obtain⟨_,ZO,rfl⟩:=hI.aC 106 92 (dq hd 106) rfl;obtain⟨_,ZT,QG,n98,rfl⟩:=hI.aC 113 98 (dq hd 113) rfl;exact bH hs hI ⟨QG,n98,rfl⟩ (dX call123 (by exact ZO) (cd (by exact ZT) rfl) (UA _ _ _ QG) _)),
   (fun _ _ _ hs hI hl hd=>by
    obtain⟨_,eR,rfl⟩:=hI.aC 0 15 (dq hd 0) rfl;obtain⟨_,ZU,A5,n99,rfl⟩:=hI.aC 114 99 (dq hd 114) rfl;exact kc (k:=16) (v:=⟨[114,97,116,101],4,bS A5 [1,2],some A5,true⟩) hs hI hl (dq hd 0) ⟨_,rfl,rfl,rfl,rfl,A5,n99,rfl,rfl⟩ (fun M hM=>aq.insert (dJ dW (vD:=eD) (k:=(16:Int)) (v:=⟨[114,97,116,101],4,bS A5 [1,2],some A5,true⟩) underlying123 (by exact eR) rfl (by exact ZU) rfl rfl hM))),
   (fun _ _ _ hs hI hl hd=>bH hs hI rfl (aX (by exact hI.dR.b4) _)),
   (fun _ _ _ hs hI hl hd=>by
    obtain⟨_,YJ,rfl⟩:=hI.aC 116 100 (dq hd 116) rfl;exact bH hs hI ⟨eA,cO.refl _,rfl⟩ (dX call122 (by exact YJ) rfl (zo _) _)),
   (fun _ _ _ hs hI hl hd=>by
    obtain⟨_,eR,rfl⟩:=hI.aC 0 15 (dq hd 0) rfl;obtain⟨_,YK,AS,af2,rfl⟩:=hI.aC 117 101 (dq hd 117) rfl;exact kc (k:=17) (v:=⟨[105,115,115,117,101],2,bS AS [2],some AS,false⟩) hs hI hl (dq hd 0) ⟨_,rfl,rfl,rfl,rfl,AS,af2,rfl,rfl⟩ (fun M hM=>aq.insert (dJ dW (vD:=eD) (k:=(17:Int)) (v:=⟨[105,115,115,117,101],2,bS AS [2],some AS,false⟩) underlying123 (by exact eR) rfl (by exact YK) rfl rfl hM))),
   (fun _ _ _ hs hI hl hd=>bH hs hI rfl (aX (by exact hI.dR.b4) _)),
   (fun _ _ _ hs hI hl hd=>by
    obtain⟨_,YL,rfl⟩:=hI.aC 119 102 (dq hd 119) rfl;exact bH hs hI ⟨eA,cO.refl _,rfl⟩ (dX call122 (by exact YL) rfl (zo _) _)),
   (fun _ _ _ hs hI hl hd=>by
    obtain⟨_,eR,rfl⟩:=hI.aC 0 15 (dq hd 0) rfl;obtain⟨_,YM,AT,Q8,rfl⟩:=hI.aC 120 103 (dq hd 120) rfl;exact kc (k:=18) (v:=⟨[99,97,110,99,101,108],2,bS AT [2],some AT,false⟩) hs hI hl (dq hd 0) ⟨_,rfl,rfl,rfl,rfl,AT,Q8,rfl,rfl⟩ (fun M hM=>aq.insert (dJ dW (vD:=eD) (k:=(18:Int)) (v:=⟨[99,97,110,99,101,108],2,bS AT [2],some AT,false⟩) underlying123 (by exact eR) rfl (by exact YM) rfl rfl hM))),
   (fun _ _ _ hs hI hl hd=>by
    obtain⟨_,eR,rfl⟩:=hI.aC 0 15 (dq hd 0) rfl;exact bH hs hI rfl (aX (by exact eR) _)),
   (fun _ _ _ hs hI hl hd=>by
    obtain⟨_,YN,rfl⟩:=hI.aC 122 104 (dq hd 122) rfl;exact bH hs hI rfl (wL (by exact YN) _)),trivial⟩
 ·intro listed e ob hs ez hI;exact Z4 hs ez hI
 ·intro m hA;refine J.ret ?_;exact⟨m,[_],hA,rfl,Sub.refl _⟩
end Go.T
