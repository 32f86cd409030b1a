/-
  Contracts of the functions that the statement reaches, and the logic in which they are proved (no condition): parts W88, Core49, W89, Core50, SpecD9, W90, W91.
-/
import Derived.Test.YtapflgppmigcdaaGreatDoorA13
set_option linter.all false
namespace Go.T
open Go Go.Proofs Go.Proofs.Tryz
set_option maxRecDepth 20000
theorem eM:kr Tryz.prog 3 (fun n:Int=>D.raw (.int .i64 n)) (Value.int .i64) (fun _=>True):=afY underlying3
@[reducible] def bM:mJ→D
 |none=>.raw .nilFunc
 |some (a,b)=>.fn (.func 175) [] [.bc [.b a],.bc [.b b]]
theorem KD(p:mJ):(bM p).bz=true:=by
 cases p with
 |none=>rfl
 |some q=>rfl
@[reducible] def c7(m:iv):D:=uS (fun n:Int=>D.raw (.int .i64 n)) bM m
structure af4(w:aa)(c:Int)(m:iv)(more:List Int)where
 seen:List Nat
 eU:seen.Nodup
 bw:∀j∈seen,j<m.length
structure af5(w:aa)(c:Int)(m:iv)(more:List Int)where
 pre:List Int
 rest:List Int
 hx:more=pre++rest
theorem pM(w:aa)(c:Int)(m:iv)(more:List Int)(yN:∀n∈more,0≤n∧n<13)(Q_:more.length≤100)(hm:∀p∈m,0≤p.1∧p.1<13):Fc Tryz.prog 121 [.str w,.i c,(c7 m),ir more] (.agg (cO w c (b9 m more) (c7 m) false)):=by
 refine Fc.je func121 rfl ntmps121 rfl rfl rfl ?_;refine J.seq (J.af [.w] ?_);refine .W rfl (jh 0 zeroValue121 rfl)<|.nil ?_;refine J.seq (J.af [.p,.p,.p,.p,.w,.w] ?_);refine .mv rfl rfl<|.mv rfl rfl<|.mv rfl rfl<|.P rfl (pZ (pl:=#[(0,1),(1,1),(2,13),(15,1),(16,1)]) underlying121 zeroValue121 (fun w=>by kernel_rfl) rfl rfl)<|.W rfl (jh 1 zeroValue121 rfl)<|.W rfl (km sizeOf121 rfl rfl rfl rfl rfl rfl)<|.nil ?_;refine J.seq (J.seq (J.af [.p,.w] ?_));refine .mv rfl rfl<|.W rfl (aj2 2 underlying119 rfl rfl)<|.nil ?_;refine J.block ?_;refine J.loop (ι:=af4 w c m more) (fun sx=>[(0,.str w),(1,.i c),(2,(c7 m)),(3,ir more),(8,.box 0 0),(9,.box 1 0),(18,.box 2 0)]) (fun sx=>[(2,.mj (m.map fun p=>(fun n:Int=>D.raw (.int .i64 n)) p.1) (m.map fun p=>bM p.2) sx.seen),(1,.cells (cO w c (wv m sx.seen) (c7 m) false)),(0,.cells [.str [],.raw (.int .i64 0),.b false,.b false,.b false,.b false,.b false,.b false,.b false,.b false,.b false,.b false,.b false,.b false,.b false,.raw (.map none),.b false])]) (fun sx=>xF m.length sx.seen) ⟨[],List.nodup_nil,by simp⟩ ?_ ?_
 ·exact Le.mk rfl (.s rfl rfl (.s rfl rfl (.s rfl rfl (.s rfl rfl (.s rfl rfl (.s rfl rfl (.s rfl rfl .nil))))))) (.cons rfl rfl (.cons rfl rfl (.cons rfl rfl .nil)))
 ·rintro⟨seen,eU,bw⟩;show J _ _ _ _ [(0,.str w),(1,.i c),(2,(c7 m)),(3,ir more),(8,.box 0 0),(9,.box 1 0),(18,.box 2 0)] [(2,.mj (m.map fun p=>(fun n:Int=>D.raw (.int .i64 n)) p.1) (m.map fun p=>bM p.2) seen),(1,.cells (cO w c (wv m seen) (c7 m) false)),(0,.cells [.str [],.raw (.int .i64 0),.b false,.b false,.b false,.b false,.b false,.b false,.b false,.b false,.b false,.b false,.b false,.b false,.b false,.raw (.map none),.b false])];refine J.seq (J.vl ?_);refine Tx.n rfl trivial (ajY eM (vD:=bM) rfl rfl) (fun nb cP=>?_);rcases nb with _|⟨nj,nk,nv⟩
  ·dsimp only[rZ,tp,tn];refine Tx.q rfl trivial (eC rfl rfl _) ?_;refine Tx.nil ?_;refine J.seq ?_;refine J.eF rfl rfl ?_;refine J.exit (dO (dG ?_));refine J.seq (J.seq (J.af [.p,.p,.p] ?_));refine .mv rfl rfl<|.P rfl (cY underlying25 rfl)<|.mv rfl rfl<|.nil ?_;refine J.block ?_;refine J.loop (ι:=af5 w c m more) (fun sx=>[(3,ir more),(8,.box 0 0),(9,.box 1 0),(26,ir more),(27,.i more.length),(28,.i sx.pre.length)]) (fun sx=>[(1,.cells (cO w c (uC (fun j=>m.any fun p=>decide (p.1=(j:Int))) sx.pre) (c7 m) false)),(0,.cells [.str [],.raw (.int .i64 0),.b false,.b false,.b false,.b false,.b false,.b false,.b false,.b false,.b false,.b false,.b false,.b false,.b false,.raw (.map none),.b false])]) (fun sx=>sx.rest.length) ⟨[],_,rfl⟩ ?_ ?_
   ·exact Le.mk rfl (.s rfl rfl (.s rfl rfl (.s rfl rfl (.s rfl rfl (.cons rfl (Sub.int zS) rfl (.s rfl rfl .nil)))))) (.eq rfl (by(congr 1;exact D3 fun j _=>(ad8 cP j).trans (by simp[uC]))) rfl (.cons rfl rfl .nil))
   ·rintro⟨pre,rest,hx⟩;show J _ _ _ _ [(3,ir more),(8,.box 0 0),(9,.box 1 0),(26,ir more),(27,.i more.length),(28,.i pre.length)] [(1,.cells (cO w c (uC (fun j=>m.any fun p=>decide (p.1=(j:Int))) pre) (c7 m) false)),(0,.cells [.str [],.raw (.int .i64 0),.b false,.b false,.b false,.b false,.b false,.b false,.b false,.b false,.b false,.b false,.b false,.b false,.b false,.raw (.map none),.b false])];have hl:=congrArg List.length hx;simp only[List.length_append]at hl;rcases rest with _|⟨x,rest⟩
    ·obtain rfl:more=pre:=by simpa using hx
     refine J.seq (J.af [.p] ?_);refine .P rfl (bQ rfl rfl)<|.nil ?_;refine J.seq ?_;refine J.eF rfl zS ?_;refine J.exit (dO (dG ?_));refine J.seq (J.af [.r,.w] ?_);refine .R rfl (zZ isAgg121 sizeOf121 rfl rfl rfl)<|.W rfl (km sizeOf121 rfl rfl rfl rfl rfl rfl)<|.nil ?_;refine J.ret (?_);exact Rd.cA results121 isAgg121 sizeOf121 rfl rfl rfl (Sub.agg (.r (.cons (Sub.refl _) (.r (.cons (Sub.refl _) (.r (.cons (Sub.refl _) (.r (.cons (Sub.refl _) (.r (.cons (Sub.refl _) (.r (.cons (Sub.refl _) (.r (.cons (Sub.refl _) (.r (.cons (Sub.refl _) (.r .nil))))))))))))))))))
    ·simp only[List.length_cons]at hl;have s3:=yN x (by rw[hx];simp);refine J.seq (J.af [.p] ?_);refine .P rfl (bQ rfl rfl)<|.nil ?_;refine J.seq ?_;refine J.gu rfl zQ ?_;refine J.skip ?_;refine J.seq ?_;refine J.block ?_;refine J.seq (J.af [.p,.p,.p] ?_);refine .P rfl (gm underlying25 sizeOf3 rfl rfl zO (aS (fun n=>[D.i n]) hx rfl))<|.P rfl (bP isAgg3 rfl)<|.ag rfl rfl<|.nil ?_;refine J.af [.p,.p,.p,.w] ?_;refine .mv rfl rfl<|.P rfl (im (n:=12) 118 2 underlying121 sizeOf118 rfl rfl)<|.P rfl (CD (o2:=2+x.toNat) underlying118 sizeOf4 rfl rfl s3.1 zO zO)<|.W rfl (r8 sizeOf4 rfl rfl rfl rfl zQ)<|.nil ?_;refine J.nil (cn ?_);refine J.af [.p,.p] ?_;refine .P rfl (bU rfl rfl (aw zO))<|.mv rfl rfl<|.nil ?_;refine J.nil (cZ ?_);exact⟨⟨pre++[x],rest,by simp[hx]⟩,by simp,Le.mk rfl (.s rfl rfl (.s rfl rfl (.s rfl rfl (.s rfl rfl (.s rfl rfl (.cons rfl (Sub.int zS) rfl .nil)))))) (.eq rfl (by(congr 1;rw[Io s3.1 s3.2];exact D3 fun j _=>(QA s3.1 j).symm)) rfl (.cons rfl rfl .nil))⟩
  ·dsimp only[rZ,tp,tn];refine Tx.q rfl trivial (eC rfl rfl _) ?_;refine Tx.nil ?_;refine J.seq ?_;refine J.gu rfl rfl ?_;refine J.skip ?_;refine J.block ?_;refine J.seq (J.af [.r,.p,.p] ?_);refine .R rfl (ajG eM (vD:=bM) rfl rfl (And.left cP))<|.P rfl (eC rfl rfl)<|.ag rfl rfl<|.nil ?_;refine J.af [.p,.p,.p,.w] ?_;refine .mv rfl rfl<|.P rfl (im (n:=12) 118 2 underlying121 sizeOf118 rfl rfl)<|.P rfl (CD (o2:=2+nk.toNat) underlying118 sizeOf4 rfl rfl (hm _ (List.mem_of_getElem? (And.left cP))).1 (by have:=(hm _ (List.mem_of_getElem? (And.left cP))).2;omega) zO)<|.W rfl (r8 sizeOf4 rfl rfl rfl rfl (by(have:=(hm _ (List.mem_of_getElem? (And.left cP))).2;have:=(hm _ (List.mem_of_getElem? (And.left cP))).1;simp;omega)))<|.nil ?_;refine J.nil (cn ?_);refine J.nil (cZ ?_);exact⟨⟨seen++[nj],GD eU (And.right cP),ag' (And.left cP) bw⟩,by exact GO ((List.getElem?_eq_some_iff.1 (And.left cP)).1) (And.right cP),Le.mk rfl (.s rfl rfl (.s rfl rfl (.s rfl rfl (.s rfl rfl (.s rfl rfl (.s rfl rfl (.s rfl rfl .nil))))))) (.cons rfl rfl (.eq rfl (by(congr 1;rw[Io (hm _ (List.mem_of_getElem? (And.left cP))).1 (hm _ (List.mem_of_getElem? (And.left cP))).2];exact D3 fun j _=>(ad9 (And.left cP) (hm _ (List.mem_of_getElem? (And.left cP))).1 j).symm)) rfl (.cons rfl rfl .nil)))⟩
structure af2(w:aa)(c:Int)(more:List Int)where
 u:Unit
structure af3(w:aa)(c:Int)(more:List Int)where
 pre:List Int
 rest:List Int
 hx:more=pre++rest
theorem Si(w:aa)(c:Int)(more:List Int)(yN:∀n∈more,0≤n∧n<13)(Q_:more.length≤100):Fc Tryz.prog 121 [.str w,.i c,(D.raw (.map none)),ir more] (.agg (cO w c (b9 [] more) (D.raw (.map none)) false)):=by
 refine Fc.je func121 rfl ntmps121 rfl rfl rfl ?_;refine J.seq (J.af [.w] ?_);refine .W rfl (jh 0 zeroValue121 rfl)<|.nil ?_;refine J.seq (J.af [.p,.p,.p,.p,.w,.w] ?_);refine .mv rfl rfl<|.mv rfl rfl<|.mv rfl rfl<|.P rfl (pZ (pl:=#[(0,1),(1,1),(2,13),(15,1),(16,1)]) underlying121 zeroValue121 (fun w=>by kernel_rfl) rfl rfl)<|.W rfl (jh 1 zeroValue121 rfl)<|.W rfl (km sizeOf121 rfl rfl rfl rfl rfl rfl)<|.nil ?_;refine J.seq (J.seq (J.af [.p,.w] ?_));refine .mv rfl rfl<|.W rfl (aj3 2 underlying119 rfl rfl)<|.nil ?_;refine J.block ?_;refine J.loop (ι:=af2 w c more) (fun sx=>[(0,.str w),(1,.i c),(2,(D.raw (.map none))),(3,ir more),(8,.box 0 0),(9,.box 1 0),(18,.box 2 0)]) (fun sx=>[(2,.mn),(1,.cells (cO w c (fun _=>false) (D.raw (.map none)) false)),(0,.cells [.str [],.raw (.int .i64 0),.b false,.b false,.b false,.b false,.b false,.b false,.b false,.b false,.b false,.b false,.b false,.b false,.b false,.raw (.map none),.b false])]) (fun sx=>0) ⟨()⟩ ?_ ?_
 ·exact Le.mk rfl (.s rfl rfl (.s rfl rfl (.s rfl rfl (.s rfl rfl (.s rfl rfl (.s rfl rfl (.s rfl rfl .nil))))))) (.cons rfl rfl (.cons rfl rfl (.cons rfl rfl .nil)))
 ·rintro⟨u⟩;show J _ _ _ _ [(0,.str w),(1,.i c),(2,(D.raw (.map none))),(3,ir more),(8,.box 0 0),(9,.box 1 0),(18,.box 2 0)] [(2,.mn),(1,.cells (cO w c (fun _=>false) (D.raw (.map none)) false)),(0,.cells [.str [],.raw (.int .i64 0),.b false,.b false,.b false,.b false,.b false,.b false,.b false,.b false,.b false,.b false,.b false,.b false,.b false,.raw (.map none),.b false])]
  skip
  ·skip;refine J.seq (J.af [.r,.p] ?_);refine .R rfl (ajZ rfl rfl)<|.P rfl (eC rfl rfl)<|.nil ?_;refine J.seq ?_;refine J.eF rfl rfl ?_;refine J.exit (dO (dG ?_));refine J.seq (J.seq (J.af [.p,.p,.p] ?_));refine .mv rfl rfl<|.P rfl (cY underlying25 rfl)<|.mv rfl rfl<|.nil ?_;refine J.block ?_;refine J.loop (ι:=af3 w c more) (fun sx=>[(3,ir more),(8,.box 0 0),(9,.box 1 0),(26,ir more),(27,.i more.length),(28,.i sx.pre.length)]) (fun sx=>[(1,.cells (cO w c (uC (fun _=>false) sx.pre) (D.raw (.map none)) false)),(0,.cells [.str [],.raw (.int .i64 0),.b false,.b false,.b false,.b false,.b false,.b false,.b false,.b false,.b false,.b false,.b false,.b false,.b false,.raw (.map none),.b false])]) (fun sx=>sx.rest.length) ⟨[],_,rfl⟩ ?_ ?_
   ·exact Le.mk rfl (.s rfl rfl (.s rfl rfl (.s rfl rfl (.s rfl rfl (.cons rfl (Sub.int zS) rfl (.s rfl rfl .nil)))))) (.cons rfl rfl (.cons rfl rfl .nil))
   ·rintro⟨pre,rest,hx⟩;show J _ _ _ _ [(3,ir more),(8,.box 0 0),(9,.box 1 0),(26,ir more),(27,.i more.length),(28,.i pre.length)] [(1,.cells (cO w c (uC (fun _=>false) pre) (D.raw (.map none)) false)),(0,.cells [.str [],.raw (.int .i64 0),.b false,.b false,.b false,.b false,.b false,.b false,.b false,.b false,.b false,.b false,.b false,.b false,.b false,.raw (.map none),.b false])];have hl:=congrArg List.length hx;simp only[List.length_append]at hl;rcases rest with _|⟨x,rest⟩
    ·obtain rfl:more=pre:=by simpa using hx
     refine J.seq (J.af [.p] ?_);refine .P rfl (bQ rfl rfl)<|.nil ?_;refine J.seq ?_;refine J.eF rfl zS ?_;refine J.exit (dO (dG ?_));refine J.seq (J.af [.r,.w] ?_);refine .R rfl (zZ isAgg121 sizeOf121 rfl rfl rfl)<|.W rfl (km sizeOf121 rfl rfl rfl rfl rfl rfl)<|.nil ?_;refine J.ret (?_);exact Rd.cA results121 isAgg121 sizeOf121 rfl rfl rfl (Sub.agg (.r (.cons (Sub.refl _) (.r (.cons (Sub.refl _) (.r (.cons (Sub.refl _) (.r (.cons (Sub.refl _) (.r (.cons (Sub.refl _) (.r (.cons (Sub.refl _) (.r (.cons (Sub.refl _) (.r (.cons (Sub.refl _) (.r .nil))))))))))))))))))
    ·simp only[List.length_cons]at hl;have s3:=yN x (by rw[hx];simp);refine J.seq (J.af [.p] ?_);refine .P rfl (bQ rfl rfl)<|.nil ?_;refine J.seq ?_;refine J.gu rfl zQ ?_;refine J.skip ?_;refine J.seq ?_;refine J.block ?_;refine J.seq (J.af [.p,.p,.p] ?_);refine .P rfl (gm underlying25 sizeOf3 rfl rfl zO (aS (fun n=>[D.i n]) hx rfl))<|.P rfl (bP isAgg3 rfl)<|.ag rfl rfl<|.nil ?_;refine J.af [.p,.p,.p,.w] ?_;refine .mv rfl rfl<|.P rfl (im (n:=12) 118 2 underlying121 sizeOf118 rfl rfl)<|.P rfl (CD (o2:=2+x.toNat) underlying118 sizeOf4 rfl rfl s3.1 zO zO)<|.W rfl (r8 sizeOf4 rfl rfl rfl rfl zQ)<|.nil ?_;refine J.nil (cn ?_);refine J.af [.p,.p] ?_;refine .P rfl (bU rfl rfl (aw zO))<|.mv rfl rfl<|.nil ?_;refine J.nil (cZ ?_);exact⟨⟨pre++[x],rest,by simp[hx]⟩,by simp,Le.mk rfl (.s rfl rfl (.s rfl rfl (.s rfl rfl (.s rfl rfl (.s rfl rfl (.cons rfl (Sub.int zS) rfl .nil)))))) (.eq rfl (by(congr 1;rw[Io s3.1 s3.2];exact D3 fun j _=>(QA s3.1 j).symm)) rfl (.cons rfl rfl .nil))⟩
end Go.T
namespace Go.T
open Go
variable[bX]
theorem aq.insert{P:Program}{dst:Option Tmp}{t:TypeId}{x y z:Operand}{ty:TypeId}{pos:String}{ar:Array Edge}{g:Option (Nat×Bool)}{env:Env}{U:ae}{d:D}{am:ae}
  (h:aq P ⟨dst,.mapUpdate t x y z,ty,pos,ar,g⟩ env U d am):aq P ⟨dst,.insert t x y z,ty,pos,ar,g⟩ env U d am:=fun O ρ a w aj hg hv=>h O ρ a w aj hg hv
end Go.T
namespace Go.T
open Go Go.Proofs Go.Proofs.Tryz
set_option maxRecDepth 20000
theorem Xn(w:aa)(c:Int)(h:Nat→Bool)(m:iv):Fc Tryz.prog 123 [.agg (cO w c h (c7 m) false)] (.agg (cO w c h (c7 m) true)):=by
 refine Fc.je func123 rfl ntmps123 rfl rfl rfl ?_;refine go [99999] ?_;refine J.ret (?_);exact Rd.cA results123 isAgg121 sizeOf121 rfl rfl rfl (Sub.agg (.r (.cons (Sub.refl _) (.r (.cons (Sub.refl _) (.r (.cons (Sub.refl _) (.r (.cons (Sub.refl _) (.r (.cons (Sub.refl _) (.r (.cons (Sub.refl _) (.r (.cons (Sub.refl _) (.r (.cons (Sub.refl _) (.r .nil))))))))))))))))))
theorem Ax(w:aa):Fc Tryz.prog 122 [.str w,.bc [.fn (.func 121) [] []],.bc [bM (some (true,false))]] (.agg (cO w 2 (b9 [((5:Int),(some (true,false):mJ))] [2]) (c7 [((5:Int),(some (true,false):mJ))]) false)):=by
 refine Fc.je func122 rfl ntmps122 rfl rfl rfl ?_;refine go [1,99999] ?_;refine J.vl ?_;refine Tx.q rfl trivial (bP isAgg156 rfl _) ?_;refine Tx.q rfl trivial (aT rfl _) ?_;refine Tx.q rfl trivial (mF 1 (fun n:Int=>D.raw (.int .i64 n)) (bM) rfl) ?_;refine Tx.q rfl trivial (bP isAgg154 rfl _) ?_;refine Tx.q rfl trivial (aq.insert (eD eM (vD:=bM) (k:=(5:Int)) (v:=(some (true,false))) underlying119 rfl rfl rfl rfl rfl rfl)) ?_;refine Tx.q rfl trivial (aT rfl _) ?_;refine Tx.q rfl trivial (bK (n:=1) (rows:=[[D.i 2]]) underlying25 sizeOf3 rfl rfl rfl zeroValue3 rfl rfl rfl rfl rfl rfl rfl _) ?_;refine Tx.bE (Le.El (kD:=(fun n:Int=>D.raw (.int .i64 n))) (vD:=bM) (m:=[((5:Int),(some (true,false):mJ))]) 9 1 rfl rfl (fun _=>rfl) KD) ?_;refine Tx.q rfl trivial (ek call121 rfl rfl (pM w 2 [((5:Int),(some (true,false):mJ))] [2] zS zS zS).sub _) ?_;refine Tx.q rfl trivial (km sizeOf121 rfl rfl rfl rfl rfl rfl) ?_;refine Tx.nil ?_;refine go [1,99999] ?_;refine J.ret (?_);exact Rd.cA results122 isAgg121 sizeOf121 rfl rfl rfl (Sub.agg (.r (.cons (Sub.refl _) (.r (.cons (Sub.refl _) (.r (.cons (Sub.refl _) (.r (.cons (Sub.refl _) (.r (.cons (Sub.refl _) (.r (.cons (Sub.refl _) (.r (.cons (Sub.refl _) (.r (.cons (Sub.refl _) (.r .nil))))))))))))))))))
end Go.T
namespace Go.T
open Go
variable[bX]
abbrev gE:Int→D:=fun n=>.raw (.int .i64 n)
theorem ak4{β:Type}{m:List (Int×β)}{k:Int}{v:β}(h:k∉m.map (·.1)):dN m k v=m++[(k,v)]:=by
 induction m with
 |nil=>rfl
 |cons p r ih=>
  obtain⟨a,u⟩:=p;simp only[List.map_cons,List.mem_cons,not_or]at h;simp only[dN,if_neg h.1,ih h.2,List.cons_append]
def l9(listed:Array Bool)(ins:List (Nat×Int)):List Int:=(ins.filter fun e=>aZ listed e.1).map (·.2)
theorem DW{listed:Array Bool}{i:Nat}{ins:List (Nat×Int)}(hi:i<listed.size)(h:i∉ins.map (·.1)):l9 (listed.setIfInBounds i true) ins=l9 listed ins:=by
 unfold l9
 congr 1
 apply List.filter_congr;intro e he;have aD:¬i=e.1:=fun e'=>h (by rw[e'];exact List.mem_map_of_mem he);rw[fp hi,if_neg aD]
theorem aa9{listed:Array Bool}{i:Nat}{k:Int}{ins:List (Nat×Int)}(hi:i<listed.size)(hl:aZ listed i=false)(hm:(i,k)∈ins)(hn:(ins.map (·.1)).Nodup):(l9 (listed.setIfInBounds i true) ins).Perm (l9 listed ins++[k]):=by
 induction ins with
 |nil=>cases hm
 |cons e r ih=>
  rw[List.map_cons,List.nodup_cons]at hn;by_cases h:i=e.1
  ·have hk:k=e.2:=by
    rcases List.mem_cons.1 hm with rfl|hm
    ·rfl
    ·exact absurd (h▸List.mem_map_of_mem (f:=Prod.fst) hm) hn.1
   have h1:=DW (listed:=listed) hi (h▸hn.1:i∉r.map (·.1));unfold l9 at h1⊢;rw[List.filter_cons,List.filter_cons,fp hi,if_pos h,←h,hl,if_pos rfl];simp only[Bool.false_eq_true,if_false,List.map_cons];rw[h1,←hk];exact(List.perm_append_comm (l₁:=[k]))
  ·have Bm:(i,k)∈r:=(List.mem_cons.1 hm).resolve_left (fun e'=>h (by rw[←e']));have h1:=ih Bm hn.2;unfold l9 at h1⊢;rw[List.filter_cons,List.filter_cons,fp hi,if_neg h];split
   ·exact h1.cons e.2
   ·exact h1
structure mK{β:Type}(vD:β→D)(R:Int→β→Prop)(listed:Array Bool)(U:ae)(mk fz id:Nat)(ins:List (Nat×Int)):Prop where
 no:aZ listed mk=false→U.get id=none∧l9 listed ins=[]
 yes:aZ listed mk=true→aZ listed fz=false→∃m:List (Int×β),U.get id=some (.mp (bu gE vD m))∧(m.map (·.1)).Perm (l9 listed ins)∧∀p∈m,R p.1 p.2
section
variable{β:Type} {vD:β→D} {R:Int→β→Prop} {listed:Array Bool} {U am:ae} {mk fz id i:Nat} {ins:List (Nat×Int)}
theorem mK.other(h:mK vD R listed U mk fz id ins)(hi:i<listed.size)(h1:i≠mk)(h2:i≠fz)(h3:i∉ins.map (·.1))(ho:am.get id=U.get id):mK vD R (listed.setIfInBounds i true) am mk fz id ins:=by
 refine⟨fun e=>?_,fun e e'=>?_⟩
 ·rw[fp hi,if_neg h1]at e;rw[ho,DW hi h3];exact h.no e
 ·rw[fp hi,if_neg h1]at e;rw[fp hi,if_neg h2]at e';rw[ho,DW hi h3];exact h.yes e e'
theorem mK.make(h:mK vD R listed U i fz id ins)(hi:i<listed.size)(hl:aZ listed i=false)(h3:i∉ins.map (·.1)):mK vD R (listed.setIfInBounds i true) ((id,.mp (bu gE vD []))::U) i fz id ins:=by
 refine⟨fun e=>?_,fun _ _=>⟨[],by simp[ae.bf],?_,by simp⟩⟩
 ·rw[fp hi,if_pos rfl]at e;cases e
 ·rw[DW hi h3,(h.no hl).2];simp
theorem mK.insert{k:Int}{v:β}{m:List (Int×β)}(h:mK vD R listed U mk fz id ins)(hi:i<listed.size)(hl:aZ listed i=false)(h1:i≠mk)(h2:i≠fz)(hm:(i,k)∈ins)(hn:(ins.map (·.1)).Nodup)(hk:(ins.map (·.2)).Nodup)
  (ho:U.get id=some (.mp (bu gE vD m)))(hp:(m.map (·.1)).Perm (l9 listed ins))(hR:∀p∈m,R p.1 p.2)(hv:R k v):mK vD R (listed.setIfInBounds i true) (U.set id (.mp (bu gE vD (dN m k v)))) mk fz id ins:=by
 have wJ:k∉m.map (·.1):=by
  intro JS;have h4:=hp.mem_iff.1 JS;unfold l9 at h4;obtain⟨e,he,mf⟩:=List.mem_map.1 h4;rw[List.mem_filter]at he;have:e=(i,k):=by
   have h5:∀(l:List (Nat×Int)),(l.map (·.2)).Nodup→∀a∈l,∀b∈l,a.2=b.2→a=b:=by
    intro l;induction l with
    |nil=>intro _ a ha;cases ha
    |cons x l ih=>
     intro hn a ha b hb wu;rw[List.map_cons,List.nodup_cons]at hn;rcases List.mem_cons.1 ha with ea|wq<;>rcases List.mem_cons.1 hb with eb|qk
     ·rw[ea,eb]
     ·exact absurd (by rw[←ea,wu];exact List.mem_map_of_mem (f:=Prod.snd) qk) hn.1
     ·exact absurd (by rw[←eb,←wu];exact List.mem_map_of_mem (f:=Prod.snd) wq) hn.1
     ·exact ih hn.2 a wq b qk wu
   exact h5 ins hk e he.1 (i,k) hm mf
  rw[this]at he;rw[hl]at he;cases he.2
 refine⟨fun e=>?_,fun _ _=>⟨m++[(k,v)],by rw[ae.dV,if_pos rfl,ak4 wJ],?_,fun p oz=>?_⟩⟩
 ·rw[fp hi,if_neg h1]at e;rw[(h.no e).1]at ho;cases ho
 ·rw[List.map_append];exact(hp.append_right [k]).trans (aa9 hi hl hm hn).symm
 ·rcases List.mem_append.1 oz with oz|oz
  ·exact hR p oz
  ·simp at oz;subst oz;exact hv
theorem mK.freeze(h:mK vD R listed U mk i id ins)(hi:i<listed.size)(h1:aZ listed mk=true):mK vD R (listed.setIfInBounds i true) am mk i id ins:=by
 refine⟨fun e=>?_,fun _ e=>?_⟩
 ·rw[fp hi]at e;split at e
  ·cases e
  ·rw[h1]at e;cases e
 ·rw[fp hi,if_pos rfl]at e;cases e
end
def pd(iK:List (Option Nat))(VK:Nat→D→Prop)(listed:Array Bool)(env:Env):Prop:=∀j t,aZ listed j=true→iK[j]?=some (some t)→∃d,env.get t=some d∧VK j d
def vY(iK:List (Option Nat)):Bool:=(List.range iK.length).all fun i=>(List.range iK.length).all fun j=>i==j||iK[i]?!=iK[j]?||iK[i]?==some none
theorem OF{iK:List (Option Nat)}(h:vY iK=true){i j t:Nat}(hi:iK[i]?=some (some t))(hj:iK[j]?=some (some t)):i=j:=by
 have li:=(List.getElem?_eq_some_iff.1 hi).1;have lj:=(List.getElem?_eq_some_iff.1 hj).1;have h1:=List.all_eq_true.1 (List.all_eq_true.1 h i (List.mem_range.2 li)) j (List.mem_range.2 lj);rw[hi,hj]at h1;simpa using h1
theorem pd.put{iK:List (Option Nat)}{VK:Nat→D→Prop}{listed:Array Bool}{env:Env}{i t:Nat}{d:D}(h:pd iK VK listed env)(hd:vY iK=true)(hi:i<listed.size)(ht:iK[i]?=some (some t))(hv:VK i d):pd iK VK (listed.setIfInBounds i true) ((t,d)::env):=by
 intro j t' hj qr;rw[Env.bf];by_cases e:t=t'
 ·subst e;obtain rfl:=OF hd ht qr;exact⟨d,by rw[if_pos rfl],hv⟩
 ·rw[if_neg e];refine h j t' ?_ qr;rw[fp hi]at hj;split at hj
  ·rename_i e';subst e';rw[ht]at qr;cases qr;exact absurd rfl e
  ·exact hj
theorem pd.none{iK:List (Option Nat)}{VK:Nat→D→Prop}{listed:Array Bool}{env:Env}{i:Nat}(h:pd iK VK listed env)(hi:i<listed.size)(ht:iK[i]?=some Option.none):pd iK VK (listed.setIfInBounds i true) env:=by
 intro j t' hj qr;refine h j t' ?_ qr;rw[fp hi]at hj;split at hj
 ·rename_i e';subst e';rw[ht]at qr;cases qr
 ·exact hj
theorem dp{listed:Array Bool}{o:Oper}(hd:∀e∈o.after,Region.binds .any e=true→aZ listed e.on=true)(j:Nat)(h:(o.after.any fun e=>e.on==j&&Region.binds .any e)=true):aZ listed j=true:=by
 rw[Array.any_eq_true']at h;obtain⟨e,he,h2⟩:=h;rw[Bool.and_eq_true]at h2;have:=hd e he h2.2;rwa[show e.on=j by simpa using h2.1]at this
end Go.T
namespace Go.T
open Go
def cS(E m:iv):Prop:=(m.map (·.1)).Perm (E.map (·.1))∧∀p∈m,p∈E
theorem cS.refl(E:iv):cS E E:=⟨List.Perm.refl _,fun _ h=>h⟩
structure nC where
 w:aa
 c:Int
 h:Nat→Bool
 num:Option iv
 code:Bool
structure jm where
 w:aa
 c:Int
 num:Option iv
 more:List Int
 code:Bool
@[reducible] def lP:mJ:=some (true,false)
@[reducible] def lL:mJ:=some (false,false)
@[reducible] def lQ:mJ:=some (false,true)
@[reducible] def eA:iv:=[(5,lP)]
@[reducible] def eT:iv:=[(4,lP),(5,lL),(6,lL)]
def eW(k:Int):Option jm:=
 if k=1 then some ⟨[100,101,112,111,115,105,116],2,some eA,[2],false⟩
 else if k=2 then some ⟨[119,105,116,104,100,114,97,119],2,some eA,[2],false⟩
 else if k=3 then some ⟨[98,117,121],3,some eT,[0],false⟩
 else if k=4 then some ⟨[115,101,108,108],3,some eT,[0,10],false⟩
 else if k=5 then some ⟨[105,110,99,111,109,101],1,some [(7,lP)],[0],false⟩
 else if k=6 then some ⟨[101,120,112,101,110,115,101],2,some eA,[2],false⟩
 else if k=7 then some ⟨[99,111,110,118,101,114,116],2,some [(4,lP),(5,lP)],[1,2],true⟩
 else if k=8 then some ⟨[115,112,108,105,116],1,some [(7,lL),(8,lP)],[0],false⟩
 else if k=9 then some ⟨[115,112,105,110,111,102,102],1,some [(7,lL),(8,lP),(9,lQ)],[0,1],false⟩
 else if k=10 then some ⟨[101,120,99,104,97,110,103,101],1,none,[0,11],false⟩
 else if k=11 then some ⟨[101,108,101,99,116],4,none,[0,3,12],false⟩
 else if k=12 then some ⟨[101,120,101,114,99,105,115,101],3,some [(4,lP),(7,lL),(8,lP)],[0,1],false⟩
 else if k=13 then some ⟨[99,97,112,105,116,97,108],1,some [(7,lP)],[0],false⟩
 else if k=14 then some ⟨[99,97,108,108],1,some [(7,lL)],[0],false⟩
 else if k=15 then some ⟨[112,114,105,99,101],4,some [(7,lL)],[0],false⟩
 else if k=16 then some ⟨[114,97,116,101],4,some [(8,lP)],[1,2],true⟩
 else if k=17 then some ⟨[105,115,115,117,101],2,some eA,[2],false⟩
 else if k=18 then some ⟨[99,97,110,99,101,108],2,some eA,[2],false⟩
 else none
def Mh(r:jm)(v:nC):Prop:=
 match r.num with
 |none=>v.num=none∧v.h=b9 [] r.more
 |some E=>∃m,cS E m∧v.num=some m∧v.h=b9 m r.more
def qU(k:Int)(v:nC):Prop:=∃r,eW k=some r∧v.w=r.w∧v.c=r.c∧v.code=r.code∧Mh r v
structure MQ where
 bo:Nat
 fz:Nat
 id:Nat
 ins:List (Nat×Int)
 E:iv
 deriving DecidableEq
def MQ.ok(q:MQ)(i:Nat):Bool:=!(i==q.bo)&&!(i==q.fz)&&!(q.ins.map (·.1)).contains i
theorem MQ.xf{q:MQ}{i:Nat}(h:q.ok i=true):i≠q.bo∧i≠q.fz∧i∉q.ins.map (·.1):=by
 unfold MQ.ok at h;rw[Bool.and_eq_true,Bool.and_eq_true]at h;refine⟨by simpa using h.1.1,by simpa using h.1.2,?_⟩;have:=h.2;intro hm;rw[List.contains_iff_mem.2 hm]at this;cases this
open Go.Proofs Go.Proofs.Tryz
set_option maxRecDepth 20000
def qx:List (Option Nat):=[some 15,some 16,some 17,none,some 18,some 19,none,some 20,some 21,some 22,some 23,none,some 24,some 25,some 26,some 27,none,some 28,some 29,some 30,none,some 31,some 32,some 33,none,some 34,some 35,none,some 36,some 37,some 38,some 39,none,some 40,none,some 41,some 42,some 43,some 44,none,some 45,some 46,some 47,none,some 48,none,some 49,some 50,some 51,none,some 52,some 53,some 54,none,some 55,none,some 56,none,some 57,some 58,some 59,none,some 60,some 61,some 62,none,some 63,some 64,some 65,none,some 66,some 67,some 68,none,some 69,none,some 70,none,some 71,some 72,some 73,none,some 74,some 75,some 76,none,some 77,some 78,some 79,none,some 80,some 81,some 82,none,some 83,some 84,some 85,none,some 86,some 87,some 88,none,some 89,some 90,some 91,none,some 92,some 93,some 94,some 95,none,some 96,some 97,some 98,some 99,none,some 100,some 101,none,some 102,some 103,none,some 104,some 0]
def kVT:List (D→Prop):=[fun d=>d=.bR 50,
 fun d=>d=.fn (.func 122) [] [.bc [.fn (.func 121) [] []],.bc [bM (some (true,false))]],
 fun d=>∃m,cS eA m∧d=.agg (cO [100,101,112,111,115,105,116] 2 (b9 m [2]) (c7 m) false),
 fun _=>True,
 fun d=>d=.fn (.func 122) [] [.bc [.fn (.func 121) [] []],.bc [bM (some (true,false))]],
 fun d=>∃m,cS eA m∧d=.agg (cO [119,105,116,104,100,114,97,119] 2 (b9 m [2]) (c7 m) false),
 fun _=>True,
 fun d=>d=.fn (.func 121) [] [],
 fun d=>d=c7 eT,
 fun d=>d=.snap 1 true [[D.i 0]],
 fun d=>∃m,cS eT m∧d=.agg (cO [98,117,121] 3 (b9 m [0]) (c7 m) false),
 fun _=>True,
 fun d=>d=.fn (.func 121) [] [],
 fun d=>d=c7 eT,
 fun d=>d=.snap 1 true [[D.i 0],[D.i 10]],
 fun d=>∃m,cS eT m∧d=.agg (cO [115,101,108,108] 3 (b9 m [0,10]) (c7 m) false),
 fun _=>True,
 fun d=>d=.fn (.func 121) [] [],
 fun d=>d=.bR 51,
 fun d=>d=bM lP,
 fun _=>True,
 fun d=>∃m,cS [((7:Int),lP)] m∧d=c7 m,
 fun d=>d=.snap 1 true [[D.i 0]],
 fun d=>∃m,cS [((7:Int),lP)] m∧d=.agg (cO [105,110,99,111,109,101] 1 (b9 m [0]) (c7 m) false),
 fun _=>True,
 fun d=>d=.fn (.func 122) [] [.bc [.fn (.func 121) [] []],.bc [bM (some (true,false))]],
 fun d=>∃m,cS eA m∧d=.agg (cO [101,120,112,101,110,115,101] 2 (b9 m [2]) (c7 m) false),
 fun _=>True,
 fun d=>d=.fn (.func 123) [] [],
 fun d=>d=.fn (.func 121) [] [],
 fun d=>d=.bR 52,
 fun d=>d=bM lP,
 fun _=>True,
 fun d=>d=bM lP,
 fun _=>True,
 fun d=>∃m,cS [((4:Int),lP),((5:Int),lP)] m∧d=c7 m,
 fun d=>d=.snap 1 true [[D.i 1],[D.i 2]],
 fun d=>∃m,cS [((4:Int),lP),((5:Int),lP)] m∧d=.agg (cO [99,111,110,118,101,114,116] 2 (b9 m [1,2]) (c7 m) false),
 fun d=>∃m,cS [((4:Int),lP),((5:Int),lP)] m∧d=.agg (cO [99,111,110,118,101,114,116] 2 (b9 m [1,2]) (c7 m) true),
 fun _=>True,
 fun d=>d=.fn (.func 121) [] [],
 fun d=>d=.bR 53,
 fun d=>d=bM lL,
 fun _=>True,
 fun d=>d=bM lP,
 fun _=>True,
 fun d=>∃m,cS [((7:Int),lL),((8:Int),lP)] m∧d=c7 m,
 fun d=>d=.snap 1 true [[D.i 0]],
 fun d=>∃m,cS [((7:Int),lL),((8:Int),lP)] m∧d=.agg (cO [115,112,108,105,116] 1 (b9 m [0]) (c7 m) false),
 fun _=>True,
 fun d=>d=.fn (.func 121) [] [],
 fun d=>d=.bR 54,
 fun d=>d=bM lL,
 fun _=>True,
 fun d=>d=bM lP,
 fun _=>True,
 fun d=>d=bM lQ,
 fun _=>True,
 fun d=>∃m,cS [((7:Int),lL),((8:Int),lP),((9:Int),lQ)] m∧d=c7 m,
 fun d=>d=.snap 1 true [[D.i 0],[D.i 1]],
 fun d=>∃m,cS [((7:Int),lL),((8:Int),lP),((9:Int),lQ)] m∧d=.agg (cO [115,112,105,110,111,102,102] 1 (b9 m [0,1]) (c7 m) false),
 fun _=>True,
 fun d=>d=.fn (.func 121) [] [],
 fun d=>d=.snap 1 true [[D.i 0],[D.i 11]],
 fun d=>d=.agg (cO [101,120,99,104,97,110,103,101] 1 (b9 [] [0,11]) (.raw (.map none)) false),
 fun _=>True,
 fun d=>d=.fn (.func 121) [] [],
 fun d=>d=.snap 1 true [[D.i 0],[D.i 3],[D.i 12]],
 fun d=>d=.agg (cO [101,108,101,99,116] 4 (b9 [] [0,3,12]) (.raw (.map none)) false),
 fun _=>True,
 fun d=>d=.fn (.func 121) [] [],
 fun d=>d=.bR 55,
 fun d=>d=bM lP,
 fun _=>True,
 fun d=>d=bM lL,
 fun _=>True,
 fun d=>d=bM lP,
 fun _=>True,
 fun d=>∃m,cS [((4:Int),lP),((7:Int),lL),((8:Int),lP)] m∧d=c7 m,
 fun d=>d=.snap 1 true [[D.i 0],[D.i 1]],
 fun d=>∃m,cS [((4:Int),lP),((7:Int),lL),((8:Int),lP)] m∧d=.agg (cO [101,120,101,114,99,105,115,101] 3 (b9 m [0,1]) (c7 m) false),
 fun _=>True,
 fun d=>d=.fn (.func 121) [] [],
 fun d=>d=.bR 56,
 fun d=>d=bM lP,
 fun _=>True,
 fun d=>∃m,cS [((7:Int),lP)] m∧d=c7 m,
 fun d=>d=.snap 1 true [[D.i 0]],
 fun d=>∃m,cS [((7:Int),lP)] m∧d=.agg (cO [99,97,112,105,116,97,108] 1 (b9 m [0]) (c7 m) false),
 fun _=>True,
 fun d=>d=.fn (.func 121) [] [],
 fun d=>d=.bR 57,
 fun d=>d=bM lL,
 fun _=>True,
 fun d=>∃m,cS [((7:Int),lL)] m∧d=c7 m,
 fun d=>d=.snap 1 true [[D.i 0]],
 fun d=>∃m,cS [((7:Int),lL)] m∧d=.agg (cO [99,97,108,108] 1 (b9 m [0]) (c7 m) false),
 fun _=>True,
 fun d=>d=.fn (.func 121) [] [],
 fun d=>d=.bR 58,
 fun d=>d=bM lL,
 fun _=>True,
 fun d=>∃m,cS [((7:Int),lL)] m∧d=c7 m,
 fun d=>d=.snap 1 true [[D.i 0]],
 fun d=>∃m,cS [((7:Int),lL)] m∧d=.agg (cO [112,114,105,99,101] 4 (b9 m [0]) (c7 m) false),
 fun _=>True,
 fun d=>d=.fn (.func 123) [] [],
 fun d=>d=.fn (.func 121) [] [],
 fun d=>d=.bR 59,
 fun d=>d=bM lP,
 fun _=>True,
 fun d=>∃m,cS [((8:Int),lP)] m∧d=c7 m,
 fun d=>d=.snap 1 true [[D.i 1],[D.i 2]],
 fun d=>∃m,cS [((8:Int),lP)] m∧d=.agg (cO [114,97,116,101] 4 (b9 m [1,2]) (c7 m) false),
 fun d=>∃m,cS [((8:Int),lP)] m∧d=.agg (cO [114,97,116,101] 4 (b9 m [1,2]) (c7 m) true),
 fun _=>True,
 fun d=>d=.fn (.func 122) [] [.bc [.fn (.func 121) [] []],.bc [bM (some (true,false))]],
 fun d=>∃m,cS eA m∧d=.agg (cO [105,115,115,117,101] 2 (b9 m [2]) (c7 m) false),
 fun _=>True,
 fun d=>d=.fn (.func 122) [] [.bc [.fn (.func 121) [] []],.bc [bM (some (true,false))]],
 fun d=>∃m,cS eA m∧d=.agg (cO [99,97,110,99,101,108] 2 (b9 m [2]) (c7 m) false),
 fun _=>True,
 fun d=>d=.bR 50,
 fun d=>d=.bR 50]
def y5(i:Nat):D→Prop:=(kVT[i]?).getD fun _=>True
def kK:List MQ:=[⟨18,21,51,[(20,7)],[((7:Int),lP)]⟩,⟨30,35,52,[(32,4),(34,5)],[((4:Int),lP),((5:Int),lP)]⟩,⟨41,46,53,[(43,7),(45,8)],[((7:Int),lL),((8:Int),lP)]⟩,⟨51,58,54,[(53,7),(55,8),(57,9)],[((7:Int),lL),((8:Int),lP),((9:Int),lQ)]⟩,⟨71,78,55,[(73,4),(75,7),(77,8)],[((4:Int),lP),((7:Int),lL),((8:Int),lP)]⟩,⟨83,86,56,[(85,7)],[((7:Int),lP)]⟩,⟨91,94,57,[(93,7)],[((7:Int),lL)]⟩,⟨99,102,58,[(101,7)],[((7:Int),lL)]⟩,⟨108,111,59,[(110,8)],[((8:Int),lP)]⟩]
def mz:List (Nat×Int):=[(3,1),(6,2),(11,3),(16,4),(24,5),(27,6),(39,7),(49,8),(61,9),(65,10),(69,11),(81,12),(89,13),(97,14),(105,15),(115,16),(118,17),(121,18)]
@[reducible] def Cg:Option iv→D
 |none=>.raw (.map none)
 |some m=>c7 m
@[reducible] def eZ(v:nC):D:=.agg (cO v.w v.c v.h (Cg v.num) v.code)
theorem af1(v:nC):(eZ v).bz=true:=by
 obtain⟨w,c,h,n,code⟩:=v;cases n<;>rfl
theorem BK:vY qx=true:=by decide+kernel
abbrev KF:Fr:=⟨105,[],false,none⟩
structure Dj(env:Env):Prop where
 b1:env.get 1=some (.bc [bM lP])
 b2:env.get 2=some (bM lL)
 b3:env.get 3=some (.bc [.fn (.func 121) [] []])
 b4:env.get 4=some (.fn (.func 122) [] [.bc [.fn (.func 121) [] []],.bc [bM (some (true,false))]])
 b5:env.get 5=some (.fn (.func 123) [] [])
 b6:env.get 6=some (c7 eT)
structure nB(listed:Array Bool)(env:Env)(U:ae):Prop where
 aA:pd qx y5 listed env
 cH:Dj env
 zj:mK eZ qU listed U 0 1000 50 mz
 th:∀q∈kK,mK bM (fun k v=>(k,v)∈q.E) listed U q.bo q.fz q.id q.ins
 qY:∀q∈kK,aZ listed q.fz=true→∀e∈q.ins,aZ listed e.1=true
theorem Dj.put{env:Env}{t:Nat}{d:D}(h:Dj env)(ht:(Nat.blt 6 t||t==0)=true):Dj ((t,d)::env):=by
 have ht:6<t∨t=0:=by simpa[Nat.blt_eq]using ht
 have key:∀s,0<s→s≤6→Env.get ((t,d)::env) s=env.get s:=fun s h0 hs=>by rw[Env.bf,if_neg zO]
 exact⟨by rw[key 1 zO zO];exact h.b1,by rw[key 2 zO zO];exact h.b2,by rw[key 3 zO zO];exact h.b3,by rw[key 4 zO zO];exact h.b4,by rw[key 5 zO zO];exact h.b5,by rw[key 6 zO zO];exact h.b6⟩
abbrev sf(listed:Array Bool)(env:Env)(U:ae)(i:Nat)(o:Oper)(ops:Array Oper):Prop:=
 ∃d am fD cX,dR KF.N o.dst=true∧On ops env o∧aq Tryz.prog o env U d am∧Le KF (env.put o.dst d) am fD cX∧nB (listed.setIfInBounds i true) fD cX
theorem tv{ops:Array Oper}{env:Env}{o:Oper}(h:o.guard=none):On ops env o:=by unfold On;rw[h];trivial
def IQ(i:Nat):Bool:=!(i==0)&&!(i==1000)&&!(mz.map (·.1)).contains i&&kK.all (·.ok i)
theorem pd.alc{iK:List (Option Nat)}{VK:Nat→D→Prop}{listed:Array Bool}{env:Env}{i t:Nat}{d:D}(h:pd iK VK listed env)(hd:vY iK=true)(hl:aZ listed i=false)(ht:iK[i]?=some (some t)):pd iK VK listed ((t,d)::env):=by
 intro j t' hj qr;rw[Env.bf];by_cases e:t=t'
 ·subst e;obtain rfl:=OF hd ht qr;rw[hl]at hj;cases hj
 ·rw[if_neg e];exact h j t' hj qr
theorem BQ{listed:Array Bool}{i j:Nat}(hi:i<listed.size)(h:aZ listed j=true):aZ (listed.setIfInBounds i true) j=true:=by
 rw[fp hi];split
 ·rfl
 ·exact h
def tt(i:Nat):Bool:=kK.all fun q=>!(i==q.fz)
theorem AE{listed:Array Bool}{i:Nat}(h:∀q∈kK,aZ listed q.fz=true→∀e∈q.ins,aZ listed e.1=true)(hi:i<listed.size)(hz:tt i=true):∀q∈kK,aZ (listed.setIfInBounds i true) q.fz=true→∀e∈q.ins,aZ (listed.setIfInBounds i true) e.1=true:=by
 intro q hq hf e he;have h1:i≠q.fz:=by simpa using List.all_eq_true.1 hz q hq
 rw[fp hi,if_neg h1]at hf;exact BQ hi (h q hq hf e he)
def Dv(listed:Array Bool):List (Nat×Int)→Prop
 |[]=>True
 |e::r=>aZ listed e.1=true∧Dv listed r
theorem Dv.all{listed:Array Bool}:∀{l:List (Nat×Int)},Dv listed l→∀e∈l,aZ listed e.1=true
 |[],_,e,he=>by cases he
 |x::l,h,e,he=>by
  rcases List.mem_cons.1 he with rfl|he
  ·exact h.1
  ·exact h.2.all e he
theorem OM{listed:Array Bool}{l:List (Nat×Int)}(h:∀e∈l,aZ listed e.1=true):l9 listed l=l.map (·.2):=by
 unfold l9;rw[List.filter_eq_self.2 h]
def kQ(j:Nat):MQ:=(kK[j]?).getD ⟨0,0,0,[],[]⟩
theorem kL{j:Nat}(h:Nat.blt j kK.length=true):kQ j∈kK:=by
 have h:j<kK.length:=by simpa[Nat.blt_eq]using h
 unfold kQ;rw[List.getElem?_eq_getElem h];exact List.getElem_mem h
section
variable{ops:Array Oper} {listed:Array Bool} {env:Env} {U:ae} {i t:Nat} {o:Oper} {d:D}
theorem Fx{am:ae}(hI:nB listed env U)(aY:i<listed.size)(h:(!(i==0)&&!(i==1000)&&!(mz.map (·.1)).contains i)=true)(ho:am.get 50=U.get 50):mK eZ qU (listed.setIfInBounds i true) am 0 1000 50 mz:=by
 rw[Bool.and_eq_true,Bool.and_eq_true]at h;refine hI.zj.other aY (by simpa using h.1.1) (by simpa using h.1.2) (fun hm=>?_) ho;have:=h.2;rw[List.contains_iff_mem.2 hm]at this;cases this
theorem ajw(hs:listed.size=ops.size)(hn:Nat.blt i ops.size=true)(hI:nB listed env U)(hi:qx[i]?=some (some t))(ht:(Nat.blt 6 t||t==0)=true)(hN:dR KF.N (some t)=true)(ho:o.dst=some t)(hg:o.guard=none)(hV:y5 i d)(hf:IQ i=true)(hz:tt i=true)(hq:aq Tryz.prog o env U d U):sf listed env U i o ops:=by
 have aY:i<listed.size:=by rw[hs];simpa[Nat.blt_eq]using hn
 unfold IQ at hf;rw[Bool.and_eq_true]at hf;refine⟨d,U,(t,d)::env,U,by rw[ho];exact hN,tv hg,hq,by rw[ho];exact Le.refl _ _ _,hI.aA.put BK aY hi hV,hI.cH.put ht,Fx hI aY hf.1 rfl,fun q hq=>?_,AE hI.qY aY hz⟩;obtain⟨h1,h2,h3⟩:=MQ.xf (List.all_eq_true.1 hf.2 q hq);exact(hI.th q hq).other aY h1 h2 h3 rfl
def xg(i:Nat)(q:MQ):Bool:=!(i==0)&&!(i==1000)&&!(mz.map (·.1)).contains i&&!(q.id==50)&&kK.all fun r=>r==q||(r.ok i&&!(r.id==q.id))
theorem tg{q:MQ}(hs:listed.size=ops.size)(hn:Nat.blt i ops.size=true)(hI:nB listed env U)(hl:aZ listed i=false)(hi:qx[i]?=some (some t))(ht:(Nat.blt 6 t||t==0)=true)(hN:dR KF.N (some t)=true)(ho:o.dst=some t)(hg:o.guard=none)(hV:y5 i (.bR q.id))(hq:q∈kK)(hf:xg i q=true)(hm:i=q.bo)(dX:(q.ins.map (·.1)).contains i=false)(hz:tt i=true)
  (aP:U.get q.id=none→aq Tryz.prog o env U (.bR q.id) ((q.id,.mp (bu gE bM []))::U)):sf listed env U i o ops:=by
 have aY:i<listed.size:=by rw[hs];simpa[Nat.blt_eq]using hn
 unfold xg at hf;rw[Bool.and_eq_true,Bool.and_eq_true]at hf;have A7:q.id≠50:=by simpa using hf.1.2
 have pH:=hI.th q hq;rw[←hm]at pH;refine⟨_,_,(t,.bR q.id)::env,_,by rw[ho];exact hN,tv hg,aP (pH.no hl).1,by rw[ho];exact Le.refl _ _ _,hI.aA.put BK aY hi hV,hI.cH.put ht,Fx hI aY hf.1.1 (by rw[ae.bf,if_neg A7]),fun r hr=>?_,AE hI.qY aY hz⟩;have h:=List.all_eq_true.1 hf.2 r hr;rw[Bool.or_eq_true]at h;rcases h with h|h
 ·obtain rfl:r=q:=by simpa using h
  rw[←hm];exact pH.make aY hl (fun hm=>by rw[List.contains_iff_mem.2 hm]at dX;cases dX)
 ·rw[Bool.and_eq_true]at h;obtain⟨h1,h2,h3⟩:=MQ.xf h.1;have h4:r.id≠q.id:=by simpa using h.2
  exact(hI.th r hr).other aY h1 h2 h3 (by rw[ae.bf,if_neg (Ne.symm h4)])
theorem afi{q:MQ}{k:Int}{v:mJ}(hs:listed.size=ops.size)(hn:Nat.blt i ops.size=true)(hI:nB listed env U)(hl:aZ listed i=false)(hi:qx[i]?=some none)(ho:o.dst=none)(hg:o.guard=none)(hq:q∈kK)(hf:xg i q=true)(pF:aZ listed q.bo=true)(hz:tt i=true)(hm:(i,k)∈q.ins)(aD:(!(i==q.bo)&&!(i==q.fz))=true)(ow:(q.ins.map (·.1)).Nodup)(uN:(q.ins.map (·.2)).Nodup)(hv:(k,v)∈q.E)
  (aP:∀m,U.get q.id=some (.mp (bu gE bM m))→aq Tryz.prog o env U (.raw undef) (U.set q.id (.mp (bu gE bM (dN m k v))))):sf listed env U i o ops:=by
 have aY:i<listed.size:=by rw[hs];simpa[Nat.blt_eq]using hn
 unfold xg at hf;rw[Bool.and_eq_true,Bool.and_eq_true]at hf;rw[Bool.and_eq_true]at aD;have A7:q.id≠50:=by simpa using hf.1.2
 have pH:=hI.th q hq;have rp:aZ listed q.fz=false:=by
  cases e:aZ listed q.fz with
  |false=>rfl
  |true=>have:=hI.qY q hq e _ hm;rw[hl]at this;cases this
 obtain⟨m,g1,g2,g3⟩:=pH.yes pF rp;refine⟨_,_,env,_,by rw[ho];rfl,tv hg,aP m g1,by rw[ho];exact Le.refl _ _ _,hI.aA.none aY hi,hI.cH,Fx hI aY hf.1.1 (by rw[ae.dV,if_neg A7]),fun r hr=>?_,AE hI.qY aY hz⟩;have h:=List.all_eq_true.1 hf.2 r hr;rw[Bool.or_eq_true]at h;rcases h with h|h
 ·obtain rfl:r=q:=by simpa using h
  exact pH.insert aY hl (by simpa using aD.1) (by simpa using aD.2) hm ow uN g1 g2 g3 hv
 ·rw[Bool.and_eq_true]at h;obtain⟨h1,h2,h3⟩:=MQ.xf h.1;have h4:r.id≠q.id:=by simpa using h.2
  exact(hI.th r hr).other aY h1 h2 h3 (by rw[ae.dV,if_neg (Ne.symm h4)])
theorem sP{q:MQ}(hs:listed.size=ops.size)(hn:Nat.blt i ops.size=true)(hI:nB listed env U)(hl:aZ listed i=false)(hi:qx[i]?=some (some t))(ht:(Nat.blt 6 t||t==0)=true)(hN:dR KF.N (some t)=true)(ho:o.dst=some t)(hg:o.guard=none)(hq:q∈kK)(hf:xg i q=true)(hm:i=q.fz)(pF:aZ listed q.bo=true)(Q2:Dv listed q.ins)(hE:q.ins.map (·.2)=q.E.map (·.1))
  (hV:∀m,cS q.E m→y5 i (c7 m))(aP:aq Tryz.prog o env U (.bR q.id) U):sf listed env U i o ops:=by
 have aY:i<listed.size:=by rw[hs];simpa[Nat.blt_eq]using hn
 unfold xg at hf;rw[Bool.and_eq_true,Bool.and_eq_true]at hf;have A7:q.id≠50:=by simpa using hf.1.2
 have pH:=hI.th q hq;obtain⟨m,g1,g2,g3⟩:=pH.yes pF (by rw[←hm];exact hl);rw[OM Q2.all,hE]at g2;refine⟨_,U,(t,c7 m)::(t,.bR q.id)::env,U.set q.id .dead,by rw[ho];exact hN,tv hg,aP,by rw[ho];exact Le.El (kD:=gE) (vD:=bM) (m:=m) t q.id (by show Env.get ((t,D.bR q.id)::env) t=_;rw[Env.bf,if_pos rfl]) g1 (fun _=>rfl) KD,
  (hI.aA.alc BK hl hi).put BK aY hi (hV m ⟨g2,fun p hp=>g3 p hp⟩),(hI.cH.put ht).put ht,Fx hI aY hf.1.1 (by rw[ae.dV,if_neg A7]),fun r hr=>?_,fun r hr wC e he=>?_⟩
 rotate_left
 ·have h:=List.all_eq_true.1 hf.2 r hr;rw[Bool.or_eq_true]at h;rcases h with h|h
  ·obtain rfl:r=q:=by simpa using h
   exact BQ aY (Q2.all e he)
  ·rw[Bool.and_eq_true]at h;have h2:=(MQ.xf h.1).2.1;rw[fp aY,if_neg h2]at wC;exact BQ aY (hI.qY r hr wC e he)
 have h:=List.all_eq_true.1 hf.2 r hr;rw[Bool.or_eq_true]at h;rcases h with h|h
 ·obtain rfl:r=q:=by simpa using h
  subst hm;exact pH.freeze aY pF
 ·rw[Bool.and_eq_true]at h;obtain⟨h1,h2,h3⟩:=MQ.xf h.1;have h4:r.id≠q.id:=by simpa using h.2
  exact(hI.th r hr).other aY h1 h2 h3 (by rw[ae.dV,if_neg (Ne.symm h4)])
theorem ahk(hs:listed.size=ops.size)(hn:Nat.blt 0 ops.size=true)(hI:nB listed env U)(hl:aZ listed 0=false)(hi:qx[0]?=some (some t))(ht:(Nat.blt 6 t||t==0)=true)(hN:dR KF.N (some t)=true)(ho:o.dst=some t)(hg:o.guard=none)(hV:y5 0 (.bR 50))(hz:tt 0=true)
  (hf:(!(mz.map (·.1)).contains 0&&kK.all fun r=>r.ok 0&&!(r.id==50))=true)(aP:U.get 50=none→aq Tryz.prog o env U (.bR 50) ((50,.mp (bu gE eZ []))::U)):sf listed env U 0 o ops:=by
 have aY:0<listed.size:=by rw[hs];simpa[Nat.blt_eq]using hn
 rw[Bool.and_eq_true]at hf;refine⟨_,_,(t,.bR 50)::env,_,by rw[ho];exact hN,tv hg,aP (hI.zj.no hl).1,by rw[ho];exact Le.refl _ _ _,hI.aA.put BK aY hi hV,hI.cH.put ht,hI.zj.make aY hl (fun hm=>by have:=hf.1;rw[List.contains_iff_mem.2 hm]at this;cases this),fun r hr=>?_,AE hI.qY aY hz⟩;have h:=List.all_eq_true.1 hf.2 r hr;rw[Bool.and_eq_true]at h;obtain⟨h1,h2,h3⟩:=MQ.xf h.1;have h4:r.id≠50:=by simpa using h.2
 exact(hI.th r hr).other aY h1 h2 h3 (by rw[ae.bf,if_neg (Ne.symm h4)])
theorem afj{k:Int}{v:nC}(hs:listed.size=ops.size)(hn:Nat.blt i ops.size=true)(Rr:ops.size=124)(hI:nB listed env U)(hl:aZ listed i=false)(hi:qx[i]?=some none)(ho:o.dst=none)(hg:o.guard=none)(pF:aZ listed 0=true)(hm:(i,k)∈mz)(aD:(!(i==0)&&!(i==1000)&&kK.all fun r=>r.ok i&&!(r.id==50))=true)(ow:(mz.map (·.1)).Nodup)(uN:(mz.map (·.2)).Nodup)(hv:qU k v)(hz:tt i=true)
  (aP:∀m,U.get 50=some (.mp (bu gE eZ m))→aq Tryz.prog o env U (.raw undef) (U.set 50 (.mp (bu gE eZ (dN m k v))))):sf listed env U i o ops:=by
 have aY:i<listed.size:=by rw[hs];simpa[Nat.blt_eq]using hn
 rw[Bool.and_eq_true,Bool.and_eq_true]at aD;have rp:aZ listed 1000=false:=by unfold aZ;rw[Array.getD_eq_getD_getElem?,Array.getElem?_eq_none zO];rfl
 obtain⟨m,g1,g2,g3⟩:=hI.zj.yes pF rp;refine⟨_,_,env,_,by rw[ho];rfl,tv hg,aP m g1,by rw[ho];exact Le.refl _ _ _,hI.aA.none aY hi,hI.cH,hI.zj.insert aY hl (by simpa using aD.1.1) (by simpa using aD.1.2) hm ow uN g1 g2 g3 hv,fun r hr=>?_,AE hI.qY aY hz⟩;have h:=List.all_eq_true.1 aD.2 r hr;rw[Bool.and_eq_true]at h;obtain⟨h1,h2,h3⟩:=MQ.xf h.1;have h4:r.id≠50:=by simpa using h.2
 exact(hI.th r hr).other aY h1 h2 h3 (by rw[ae.dV,if_neg (Ne.symm h4)])
end
theorem cS.tS{E m:iv}(h:cS E m)(hE:∀p∈E,0≤p.1∧p.1<13):∀p∈m,0≤p.1∧p.1<13:=fun p hp=>hE p (h.2 p hp)
def Fh(m:List (Int×nC)):Prop:=(m.map (·.1)).Perm (mz.map (·.2))∧∀p∈m,qU p.1 p.2
theorem zg(n i:Nat):aZ (Array.replicate n false) i=false:=by
 unfold aZ;rw[Array.getD_eq_getD_getElem?,Array.getElem?_replicate];split<;>rfl
theorem ON(n:Nat)(l:List (Nat×Int)):l9 (Array.replicate n false) l=[]:=by
 unfold l9;rw[List.filter_eq_nil_iff.2 (fun e _=>by rw[zg];simp)];rfl
theorem afC{n:Nat}{env:Env}{U:ae}(h1:env.get 1=some (.bc [bM lP]))(h2:env.get 2=some (bM lL))(h3:env.get 3=some (.bc [.fn (.func 121) [] []]))(h4:env.get 4=some (.fn (.func 122) [] [.bc [.fn (.func 121) [] []],.bc [bM (some (true,false))]]))(h5:env.get 5=some (.fn (.func 123) [] []))(h6:env.get 6=some (c7 eT))(aeB:(List.range 10).all (fun i=>(ae.get U (50+i)).isNone)=true)(hid:kK.all (fun q=>Nat.ble 50 q.id&&Nat.blt q.id 60)=true):nB (Array.replicate n false) env U:=by
 have bY:∀i,i<10→ae.get U (50+i)=none:=fun i hi=>by simpa using List.all_eq_true.1 aeB i (List.mem_range.2 hi)
 refine⟨fun j t h=>?_,⟨h1,h2,h3,h4,h5,h6⟩,⟨fun _=>⟨bY 0 zD,ON _ _⟩,fun h=>?_⟩,fun q hq=>⟨fun _=>⟨?_,ON _ _⟩,fun h=>?_⟩,fun q hq h=>?_⟩
 ·rw[zg]at h;cases h
 ·rw[zg]at h;cases h
 ·have h0:=List.all_eq_true.1 hid q hq;rw[Bool.and_eq_true]at h0;have h1:=Nat.le_of_ble_eq_true h0.1;have h2:q.id<60:=by simpa[Nat.blt_eq]using h0.2
  have:=bY (q.id-50) zO;rwa[show 50+(q.id-50)=q.id by omega]at this
 ·rw[zg]at h;cases h
 ·rw[zg]at h;cases h
theorem abE{listed:Array Bool}{env:Env}{U:ae}(hs:listed.size=124)(dW:∀i,i<124→aZ listed i=true)(hI:nB listed env U):∃m,Fh m∧Le KF env U [(0,uS gE eZ m)] []:=by
 have rp:aZ listed 1000=false:=by unfold aZ;rw[Array.getD_eq_getD_getElem?,Array.getElem?_eq_none zO];rfl
 obtain⟨m,g1,g2,g3⟩:=hI.zj.yes (dW 0 zD) rp;have hd:l9 listed mz=mz.map (·.2):=OM (fun e he=>dW e.1 (by
  have h1:mz.all (fun e=>Nat.blt e.1 124)=true:=by decide+kernel
  simpa[Nat.blt_eq]using List.all_eq_true.1 h1 e he))
 rw[hd]at g2;obtain⟨d,e1,e2⟩:=hI.aA 123 0 (dW 123 zD) rfl;have e2:d=.bR 50:=e2;subst e2;exact⟨m,⟨g2,g3⟩,(Le.El (kD:=gE) (vD:=eZ) (m:=m) 0 50 e1 g1 (fun _=>rfl) af1).trans (Le.mk rfl (.s rfl rfl .nil) .nil)⟩
section
variable{ops:Array Oper} {listed:Array Bool} {env:Env} {U:ae} {i t:Nat} {o:Oper} {d:D}
theorem dq{listed:Array Bool}{o:Oper}(hd:∀e∈o.after,Region.binds .any e=true→aZ listed e.on=true)(j:Nat)(h:(o.after.any fun e=>e.on==j&&Region.binds .any e)=true:=by decide+kernel):aZ listed j=true:=dp hd j h
theorem bO(hs:listed.size=ops.size)(hI:nB listed env U)(hV:y5 i d)(hq:aq Tryz.prog o env U d U)(hi:qx[i]?=some (some t):=by rfl)(ht:(Nat.blt 6 t||t==0)=true:=by rfl)(hN:dR KF.N (some t)=true:=by rfl)(ho:o.dst=some t:=by rfl)(hg:o.guard=none:=by rfl)
  (hn:Nat.blt i ops.size=true:=by decide+kernel)(hf:IQ i=true:=by decide+kernel)(hz:tt i=true:=by decide+kernel):sf listed env U i o ops:=ajw hs hn hI hi ht hN ho hg hV hf hz hq
theorem k6{k:Int}{v:nC}(hs:listed.size=ops.size)(hI:nB listed env U)(hl:aZ listed i=false)(pF:aZ listed 0=true)(hv:qU k v)
  (aP:∀m,U.get 50=some (.mp (bu gE eZ m))→aq Tryz.prog o env U (.raw undef) (U.set 50 (.mp (bu gE eZ (dN m k v)))))(Rr:ops.size=124:=by rfl)(hi:qx[i]?=some none:=by rfl)(ho:o.dst=none:=by rfl)(hg:o.guard=none:=by rfl)
  (hn:Nat.blt i ops.size=true:=by decide+kernel)(hm:(i,k)∈mz:=by decide+kernel)(aD:(!(i==0)&&!(i==1000)&&kK.all fun r=>r.ok i&&!(r.id==50))=true:=by decide+kernel)(ow:(mz.map (·.1)).Nodup:=by decide+kernel)(uN:(mz.map (·.2)).Nodup:=by decide+kernel)(hz:tt i=true:=by decide+kernel):sf listed env U i o ops:=
 afj hs hn Rr hI hl hi ho hg pF hm aD ow uN hv hz aP
theorem m_{q:MQ}{k:Int}{v:mJ}(hs:listed.size=ops.size)(hI:nB listed env U)(hl:aZ listed i=false)(pF:aZ listed q.bo=true)
  (aP:∀m,U.get q.id=some (.mp (bu gE bM m))→aq Tryz.prog o env U (.raw undef) (U.set q.id (.mp (bu gE bM (dN m k v)))))(hi:qx[i]?=some none:=by rfl)(ho:o.dst=none:=by rfl)(hg:o.guard=none:=by rfl)
  (hn:Nat.blt i ops.size=true:=by decide+kernel)(hq:q∈kK:=by exact kL zK)(hf:xg i q=true:=by decide+kernel)(hz:tt i=true:=by decide+kernel)(hm:(i,k)∈q.ins:=by decide+kernel)(aD:(!(i==q.bo)&&!(i==q.fz))=true:=by decide+kernel)(ow:(q.ins.map (·.1)).Nodup:=by decide+kernel)(uN:(q.ins.map (·.2)).Nodup:=by decide+kernel)(hv:(k,v)∈q.E:=by decide+kernel):sf listed env U i o ops:=
 afi hs hn hI hl hi ho hg hq hf pF hz hm aD ow uN hv aP
end
set_option maxHeartbeats 6400000 in
theorem af9:xP Tryz.prog 87 [] Fh (fun m=>uS gE eZ m):=by
 refine xP.mk' [0] func87 rfl ntmps87 rfl rfl (fun _=>rfl) (fun t w=>results_tmp results87 t _ w) ?_;refine J.seq (J.af [.p] ?_);refine .ag rfl rfl<|.nil ?_;refine J.seq (J.af [.p,.p,.w,.w,.p] ?_);refine .P rfl (ai call120 rfl (Az _ _))<|.P rfl (ai call120 rfl (Az _ _))<|.W rfl (jh 0 zeroValue154 rfl)<|.W rfl (r8 sizeOf154 rfl rfl rfl rfl zD)<|.ag rfl rfl<|.nil ?_;refine J.seq (J.af [.w,.w] ?_);refine .W rfl (jh 1 zeroValue156 rfl)<|.W rfl (r8 sizeOf156 rfl rfl rfl rfl zD)<|.nil ?_;refine J.bE (Le.fY 3 1 rfl rfl rfl rfl) ?_;refine J.bE (Le.fY 1 0 rfl rfl rfl rfl) ?_;refine J.seq (J.af [.p,.p] ?_);refine .P rfl (L3 (xs:=[]) (ys:=_) rfl rfl)<|.ag rfl rfl<|.nil ?_;refine J.seq (J.af [.p] ?_);refine .ag rfl rfl<|.nil ?_;refine J.seq (J.af [.w,.p,.w,.p,.w,.p,.w,.p,.p] ?_);refine .W rfl (mF 2 (fun n:Int=>D.raw (.int .i64 n)) (bM) rfl)<|.P rfl (bP isAgg154 rfl)<|.W rfl (aq.insert (eD eM (vD:=bM) (k:=(4:Int)) (v:=lP) underlying119 rfl rfl rfl rfl rfl rfl))<|.mv rfl rfl<|.W rfl (aq.insert (eD eM (vD:=bM) (k:=(5:Int)) (v:=lL) underlying119 rfl rfl rfl rfl rfl rfl))<|.mv rfl rfl<|.W rfl (aq.insert (eD eM (vD:=bM) (k:=(6:Int)) (v:=lL) underlying119 rfl rfl rfl rfl rfl rfl))<|.mv rfl rfl<|.ag rfl rfl<|.nil ?_;refine J.bE (Le.El (kD:=(fun n:Int=>D.raw (.int .i64 n))) (vD:=bM) (m:=eT) 6 2 rfl rfl (fun _=>rfl) KD) ?_;refine J.seq (J.VH (A:=Fh) (fD:=fun m=>[(0,uS gE eZ m)]) (cX:=fun _=>[]) nB lh zK ?_ ?_ ?_ ?_)
 ·exact afC rfl rfl rfl rfl rfl rfl rfl zK
 ·exact⟨(fun _ _ _ hs hI hl hd=>ahk hs zK hI hl rfl rfl rfl rfl rfl rfl zK zK (fun bY=>mF 50 gE eZ bY)),
   (fun _ _ _ hs hI hl hd=>bO hs hI rfl (aT (by exact hI.cH.b4) _)),
   (fun _ _ _ hs hI hl hd=>by
    obtain⟨_,H4,rfl⟩:=hI.aA 1 16 (dq hd 1) rfl;exact bO hs hI ⟨eA,cS.refl _,rfl⟩ (ek call122 (by exact H4) rfl (Ax _) _)),
   (fun _ _ _ hs hI hl hd=>by
    obtain⟨_,eQ,rfl⟩:=hI.aA 0 15 (dq hd 0) rfl;obtain⟨_,H5,m17,n17,rfl⟩:=hI.aA 2 17 (dq hd 2) rfl;exact k6 (k:=1) (v:=⟨[100,101,112,111,115,105,116],2,b9 m17 [2],some m17,false⟩) hs hI hl (dq hd 0) ⟨_,rfl,rfl,rfl,rfl,m17,n17,rfl,rfl⟩ (fun M hM=>aq.insert (eD eM (vD:=eZ) (k:=(1:Int)) (v:=⟨[100,101,112,111,115,105,116],2,b9 m17 [2],some m17,false⟩) underlying123 (by exact eQ) rfl (by exact H5) rfl rfl hM))),
   (fun _ _ _ hs hI hl hd=>bO hs hI rfl (aT (by exact hI.cH.b4) _)),
   (fun _ _ _ hs hI hl hd=>by
    obtain⟨_,H6,rfl⟩:=hI.aA 4 18 (dq hd 4) rfl;exact bO hs hI ⟨eA,cS.refl _,rfl⟩ (ek call122 (by exact H6) rfl (Ax _) _)),
   (fun _ _ _ hs hI hl hd=>by
    obtain⟨_,eQ,rfl⟩:=hI.aA 0 15 (dq hd 0) rfl;obtain⟨_,e19,m19,n19,rfl⟩:=hI.aA 5 19 (dq hd 5) rfl;exact k6 (k:=2) (v:=⟨[119,105,116,104,100,114,97,119],2,b9 m19 [2],some m19,false⟩) hs hI hl (dq hd 0) ⟨_,rfl,rfl,rfl,rfl,m19,n19,rfl,rfl⟩ (fun M hM=>aq.insert (eD eM (vD:=eZ) (k:=(2:Int)) (v:=⟨[119,105,116,104,100,114,97,119],2,b9 m19 [2],some m19,false⟩) underlying123 (by exact eQ) rfl (by exact e19) rfl rfl hM))),
   (fun _ _ _ hs hI hl hd=>bO hs hI rfl (bP isAgg156 (by exact hI.cH.b3) _)),
   (fun _ _ _ hs hI hl hd=>bO hs hI rfl (aT (by exact hI.cH.b6) _)),
   (fun _ _ _ hs hI hl hd=>bO hs hI rfl (bK (n:=1) (rows:=[[D.i 0]]) underlying25 sizeOf3 rfl rfl rfl zeroValue3 rfl rfl rfl rfl rfl rfl rfl _)),
   (fun _ _ _ hs hI hl hd=>by
    obtain⟨_,e20,rfl⟩:=hI.aA 7 20 (dq hd 7) rfl;obtain⟨_,e21,rfl⟩:=hI.aA 8 21 (dq hd 8) rfl;obtain⟨_,e22,rfl⟩:=hI.aA 9 22 (dq hd 9) rfl;exact bO hs hI ⟨eT,cS.refl _,rfl⟩ (ek call121 (by exact e20) (ck rfl (ck rfl (ck (by exact e21) (ck (by exact e22) rfl)))) (pM _ _ eT [0] zD zD zD).sub _)),
   (fun _ _ _ hs hI hl hd=>by
    obtain⟨_,eQ,rfl⟩:=hI.aA 0 15 (dq hd 0) rfl;obtain⟨_,e23,BT,n23,rfl⟩:=hI.aA 10 23 (dq hd 10) rfl;exact k6 (k:=3) (v:=⟨[98,117,121],3,b9 BT [0],some BT,false⟩) hs hI hl (dq hd 0) ⟨_,rfl,rfl,rfl,rfl,BT,n23,rfl,rfl⟩ (fun M hM=>aq.insert (eD eM (vD:=eZ) (k:=(3:Int)) (v:=⟨[98,117,121],3,b9 BT [0],some BT,false⟩) underlying123 (by exact eQ) rfl (by exact e23) rfl rfl hM))),
   (fun _ _ _ hs hI hl hd=>bO hs hI rfl (bP isAgg156 (by exact hI.cH.b3) _)),
   (fun _ _ _ hs hI hl hd=>bO hs hI rfl (aT (by exact hI.cH.b6) _)),
   (fun _ _ _ hs hI hl hd=>bO hs hI rfl (bK (n:=2) (rows:=[[D.i 0],[D.i 10]]) underlying25 sizeOf3 rfl rfl rfl zeroValue3 rfl rfl rfl rfl rfl rfl rfl _)),
   (fun _ _ _ hs hI hl hd=>by
    obtain⟨_,e24,rfl⟩:=hI.aA 12 24 (dq hd 12) rfl;obtain⟨_,e25,rfl⟩:=hI.aA 13 25 (dq hd 13) rfl;obtain⟨_,e26,rfl⟩:=hI.aA 14 26 (dq hd 14) rfl;exact bO hs hI ⟨eT,cS.refl _,rfl⟩ (ek call121 (by exact e24) (ck rfl (ck rfl (ck (by exact e25) (ck (by exact e26) rfl)))) (pM _ _ eT [0,10] zD zD zD).sub _)),
   (fun _ _ _ hs hI hl hd=>by
    obtain⟨_,eQ,rfl⟩:=hI.aA 0 15 (dq hd 0) rfl;obtain⟨_,e27,BU,n27,rfl⟩:=hI.aA 15 27 (dq hd 15) rfl;exact k6 (k:=4) (v:=⟨[115,101,108,108],3,b9 BU [0,10],some BU,false⟩) hs hI hl (dq hd 0) ⟨_,rfl,rfl,rfl,rfl,BU,n27,rfl,rfl⟩ (fun M hM=>aq.insert (eD eM (vD:=eZ) (k:=(4:Int)) (v:=⟨[115,101,108,108],3,b9 BU [0,10],some BU,false⟩) underlying123 (by exact eQ) rfl (by exact e27) rfl rfl hM))),
   (fun _ _ _ hs hI hl hd=>bO hs hI rfl (bP isAgg156 (by exact hI.cH.b3) _)),
   (fun _ _ _ hs hI hl hd=>tg (q:=kQ 0) hs zK hI hl rfl rfl rfl rfl rfl rfl (kL zK) zK rfl zK zK (fun bY=>mF 51 gE bM bY)),
   (fun _ _ _ hs hI hl hd=>bO hs hI rfl (bP isAgg154 (by exact hI.cH.b1) _)),
   (fun _ _ _ hs hI hl hd=>by
    obtain⟨_,H7,rfl⟩:=hI.aA 18 29 (dq hd 18) rfl;obtain⟨_,e30,rfl⟩:=hI.aA 19 30 (dq hd 19) rfl;exact m_ (q:=kQ 0) (k:=7) (v:=lP) hs hI hl (dq hd 18) (fun M hM=>aq.insert (eD eM (vD:=bM) (k:=(7:Int)) (v:=lP) underlying119 (by exact H7) rfl (by exact e30) rfl rfl hM))),
   (fun _ _ _ hs hI hl hd=>by
    obtain⟨_,H7,rfl⟩:=hI.aA 18 29 (dq hd 18) rfl;exact sP (q:=kQ 0) hs zK hI hl rfl rfl rfl rfl rfl (kL zK) zK rfl (dq hd 18) ⟨dq hd 20,trivial⟩ zK (fun m hm=>⟨m,hm,rfl⟩) (aT (by exact H7) _)),
   (fun _ _ _ hs hI hl hd=>bO hs hI rfl (bK (n:=1) (rows:=[[D.i 0]]) underlying25 sizeOf3 rfl rfl rfl zeroValue3 rfl rfl rfl rfl rfl rfl rfl _)),
   (fun _ _ _ hs hI hl hd=>by
    obtain⟨_,e28,rfl⟩:=hI.aA 17 28 (dq hd 17) rfl;obtain⟨_,e31,SY,TT,rfl⟩:=hI.aA 21 31 (dq hd 21) rfl;obtain⟨_,AO,rfl⟩:=hI.aA 22 32 (dq hd 22) rfl;exact bO hs hI ⟨SY,TT,rfl⟩ (ek call121 (by exact e28) (ck rfl (ck rfl (ck (by exact e31) (ck (by exact AO) rfl)))) (pM _ _ SY [0] zD zD (cS.tS TT zD)).sub _)),
   (fun _ _ _ hs hI hl hd=>by
    obtain⟨_,eQ,rfl⟩:=hI.aA 0 15 (dq hd 0) rfl;obtain⟨_,H8,BV,n33,rfl⟩:=hI.aA 23 33 (dq hd 23) rfl;exact k6 (k:=5) (v:=⟨[105,110,99,111,109,101],1,b9 BV [0],some BV,false⟩) hs hI hl (dq hd 0) ⟨_,rfl,rfl,rfl,rfl,BV,n33,rfl,rfl⟩ (fun M hM=>aq.insert (eD eM (vD:=eZ) (k:=(5:Int)) (v:=⟨[105,110,99,111,109,101],1,b9 BV [0],some BV,false⟩) underlying123 (by exact eQ) rfl (by exact H8) rfl rfl hM))),
   (fun _ _ _ hs hI hl hd=>bO hs hI rfl (aT (by exact hI.cH.b4) _)),
   (fun _ _ _ hs hI hl hd=>by
    obtain⟨_,H9,rfl⟩:=hI.aA 25 34 (dq hd 25) rfl;exact bO hs hI ⟨eA,cS.refl _,rfl⟩ (ek call122 (by exact H9) rfl (Ax _) _)),
   (fun _ _ _ hs hI hl hd=>by
    obtain⟨_,eQ,rfl⟩:=hI.aA 0 15 (dq hd 0) rfl;obtain⟨_,H_,BW,n35,rfl⟩:=hI.aA 26 35 (dq hd 26) rfl;exact k6 (k:=6) (v:=⟨[101,120,112,101,110,115,101],2,b9 BW [2],some BW,false⟩) hs hI hl (dq hd 0) ⟨_,rfl,rfl,rfl,rfl,BW,n35,rfl,rfl⟩ (fun M hM=>aq.insert (eD eM (vD:=eZ) (k:=(6:Int)) (v:=⟨[101,120,112,101,110,115,101],2,b9 BW [2],some BW,false⟩) underlying123 (by exact eQ) rfl (by exact H_) rfl rfl hM))),
   (fun _ _ _ hs hI hl hd=>bO hs hI rfl (aT (by exact hI.cH.b5) _)),
   (fun _ _ _ hs hI hl hd=>bO hs hI rfl (bP isAgg156 (by exact hI.cH.b3) _)),
   (fun _ _ _ hs hI hl hd=>tg (q:=kQ 1) hs zK hI hl rfl rfl rfl rfl rfl rfl (kL zK) zK rfl zK zK (fun bY=>mF 52 gE bM bY)),
   (fun _ _ _ hs hI hl hd=>bO hs hI rfl (bP isAgg154 (by exact hI.cH.b1) _)),
   (fun _ _ _ hs hI hl hd=>by
    obtain⟨_,v8,rfl⟩:=hI.aA 30 38 (dq hd 30) rfl;obtain⟨_,e39,rfl⟩:=hI.aA 31 39 (dq hd 31) rfl;exact m_ (q:=kQ 1) (k:=4) (v:=lP) hs hI hl (dq hd 30) (fun M hM=>aq.insert (eD eM (vD:=bM) (k:=(4:Int)) (v:=lP) underlying119 (by exact v8) rfl (by exact e39) rfl rfl hM))),
   (fun _ _ _ hs hI hl hd=>bO hs hI rfl (bP isAgg154 (by exact hI.cH.b1) _)),
   (fun _ _ _ hs hI hl hd=>by
    obtain⟨_,v8,rfl⟩:=hI.aA 30 38 (dq hd 30) rfl;obtain⟨_,e40,rfl⟩:=hI.aA 33 40 (dq hd 33) rfl;exact m_ (q:=kQ 1) (k:=5) (v:=lP) hs hI hl (dq hd 30) (fun M hM=>aq.insert (eD eM (vD:=bM) (k:=(5:Int)) (v:=lP) underlying119 (by exact v8) rfl (by exact e40) rfl rfl hM))),
   (fun _ _ _ hs hI hl hd=>by
    obtain⟨_,v8,rfl⟩:=hI.aA 30 38 (dq hd 30) rfl;exact sP (q:=kQ 1) hs zK hI hl rfl rfl rfl rfl rfl (kL zK) zK rfl (dq hd 30) ⟨dq hd 32,dq hd 34,trivial⟩ zK (fun m hm=>⟨m,hm,rfl⟩) (aT (by exact v8) _)),
   (fun _ _ _ hs hI hl hd=>bO hs hI rfl (bK (n:=2) (rows:=[[D.i 1],[D.i 2]]) underlying25 sizeOf3 rfl rfl rfl zeroValue3 rfl rfl rfl rfl rfl rfl rfl _)),
   (fun _ _ _ hs hI hl hd=>by
    obtain⟨_,Ia,rfl⟩:=hI.aA 29 37 (dq hd 29) rfl;obtain⟨_,e41,SZ,TU,rfl⟩:=hI.aA 35 41 (dq hd 35) rfl;obtain⟨_,e42,rfl⟩:=hI.aA 36 42 (dq hd 36) rfl;exact bO hs hI ⟨SZ,TU,rfl⟩ (ek call121 (by exact Ia) (ck rfl (ck rfl (ck (by exact e41) (ck (by exact e42) rfl)))) (pM _ _ SZ [1,2] zD zD (cS.tS TU zD)).sub _)),
   (fun _ _ _ hs hI hl hd=>by
    obtain⟨_,H',rfl⟩:=hI.aA 28 36 (dq hd 28) rfl;obtain⟨_,e43,S0,n43,rfl⟩:=hI.aA 37 43 (dq hd 37) rfl;exact bO hs hI ⟨S0,n43,rfl⟩ (ek call123 (by exact H') (ck (by exact e43) rfl) (Xn _ _ _ S0) _)),
   (fun _ _ _ hs hI hl hd=>by
    obtain⟨_,eQ,rfl⟩:=hI.aA 0 15 (dq hd 0) rfl;obtain⟨_,e44,BX,n44,rfl⟩:=hI.aA 38 44 (dq hd 38) rfl;exact k6 (k:=7) (v:=⟨[99,111,110,118,101,114,116],2,b9 BX [1,2],some BX,true⟩) hs hI hl (dq hd 0) ⟨_,rfl,rfl,rfl,rfl,BX,n44,rfl,rfl⟩ (fun M hM=>aq.insert (eD eM (vD:=eZ) (k:=(7:Int)) (v:=⟨[99,111,110,118,101,114,116],2,b9 BX [1,2],some BX,true⟩) underlying123 (by exact eQ) rfl (by exact e44) rfl rfl hM))),
   (fun _ _ _ hs hI hl hd=>bO hs hI rfl (bP isAgg156 (by exact hI.cH.b3) _)),
   (fun _ _ _ hs hI hl hd=>tg (q:=kQ 2) hs zK hI hl rfl rfl rfl rfl rfl rfl (kL zK) zK rfl zK zK (fun bY=>mF 53 gE bM bY)),
   (fun _ _ _ hs hI hl hd=>bO hs hI rfl (aT (by exact hI.cH.b2) _)),
   (fun _ _ _ hs hI hl hd=>by
    obtain⟨_,AP,rfl⟩:=hI.aA 41 46 (dq hd 41) rfl;obtain⟨_,e47,rfl⟩:=hI.aA 42 47 (dq hd 42) rfl;exact m_ (q:=kQ 2) (k:=7) (v:=lL) hs hI hl (dq hd 41) (fun M hM=>aq.insert (eD eM (vD:=bM) (k:=(7:Int)) (v:=lL) underlying119 (by exact AP) rfl (by exact e47) rfl rfl hM))),
   (fun _ _ _ hs hI hl hd=>bO hs hI rfl (bP isAgg154 (by exact hI.cH.b1) _)),
   (fun _ _ _ hs hI hl hd=>by
    obtain⟨_,AP,rfl⟩:=hI.aA 41 46 (dq hd 41) rfl;obtain⟨_,e48,rfl⟩:=hI.aA 44 48 (dq hd 44) rfl;exact m_ (q:=kQ 2) (k:=8) (v:=lP) hs hI hl (dq hd 41) (fun M hM=>aq.insert (eD eM (vD:=bM) (k:=(8:Int)) (v:=lP) underlying119 (by exact AP) rfl (by exact e48) rfl rfl hM))),
   (fun _ _ _ hs hI hl hd=>by
    obtain⟨_,AP,rfl⟩:=hI.aA 41 46 (dq hd 41) rfl;exact sP (q:=kQ 2) hs zK hI hl rfl rfl rfl rfl rfl (kL zK) zK rfl (dq hd 41) ⟨dq hd 43,dq hd 45,trivial⟩ zK (fun m hm=>⟨m,hm,rfl⟩) (aT (by exact AP) _)),
   (fun _ _ _ hs hI hl hd=>bO hs hI rfl (bK (n:=1) (rows:=[[D.i 0]]) underlying25 sizeOf3 rfl rfl rfl zeroValue3 rfl rfl rfl rfl rfl rfl rfl _)),
   (fun _ _ _ hs hI hl hd=>by
    obtain⟨_,e45,rfl⟩:=hI.aA 40 45 (dq hd 40) rfl;obtain⟨_,e49,S7,TV,rfl⟩:=hI.aA 46 49 (dq hd 46) rfl;obtain⟨_,e50,rfl⟩:=hI.aA 47 50 (dq hd 47) rfl;exact bO hs hI ⟨S7,TV,rfl⟩ (ek call121 (by exact e45) (ck rfl (ck rfl (ck (by exact e49) (ck (by exact e50) rfl)))) (pM _ _ S7 [0] zD zD (cS.tS TV zD)).sub _)),
   (fun _ _ _ hs hI hl hd=>by
    obtain⟨_,eQ,rfl⟩:=hI.aA 0 15 (dq hd 0) rfl;obtain⟨_,e51,BY,n51,rfl⟩:=hI.aA 48 51 (dq hd 48) rfl;exact k6 (k:=8) (v:=⟨[115,112,108,105,116],1,b9 BY [0],some BY,false⟩) hs hI hl (dq hd 0) ⟨_,rfl,rfl,rfl,rfl,BY,n51,rfl,rfl⟩ (fun M hM=>aq.insert (eD eM (vD:=eZ) (k:=(8:Int)) (v:=⟨[115,112,108,105,116],1,b9 BY [0],some BY,false⟩) underlying123 (by exact eQ) rfl (by exact e51) rfl rfl hM))),
   (fun _ _ _ hs hI hl hd=>bO hs hI rfl (bP isAgg156 (by exact hI.cH.b3) _)),
   (fun _ _ _ hs hI hl hd=>tg (q:=kQ 3) hs zK hI hl rfl rfl rfl rfl rfl rfl (kL zK) zK rfl zK zK (fun bY=>mF 54 gE bM bY)),
   (fun _ _ _ hs hI hl hd=>bO hs hI rfl (aT (by exact hI.cH.b2) _)),
   (fun _ _ _ hs hI hl hd=>by
    obtain⟨_,v_,rfl⟩:=hI.aA 51 53 (dq hd 51) rfl;obtain⟨_,e54,rfl⟩:=hI.aA 52 54 (dq hd 52) rfl;exact m_ (q:=kQ 3) (k:=7) (v:=lL) hs hI hl (dq hd 51) (fun M hM=>aq.insert (eD eM (vD:=bM) (k:=(7:Int)) (v:=lL) underlying119 (by exact v_) rfl (by exact e54) rfl rfl hM))),
   (fun _ _ _ hs hI hl hd=>bO hs hI rfl (bP isAgg154 (by exact hI.cH.b1) _)),
   (fun _ _ _ hs hI hl hd=>by
    obtain⟨_,v_,rfl⟩:=hI.aA 51 53 (dq hd 51) rfl;obtain⟨_,e55,rfl⟩:=hI.aA 54 55 (dq hd 54) rfl;exact m_ (q:=kQ 3) (k:=8) (v:=lP) hs hI hl (dq hd 51) (fun M hM=>aq.insert (eD eM (vD:=bM) (k:=(8:Int)) (v:=lP) underlying119 (by exact v_) rfl (by exact e55) rfl rfl hM))),
   (fun _ _ _ hs hI hl hd=>bO hs hI rfl (ai call120 rfl (Az false true) _)),
   (fun _ _ _ hs hI hl hd=>by
    obtain⟨_,v_,rfl⟩:=hI.aA 51 53 (dq hd 51) rfl;obtain⟨_,e56,rfl⟩:=hI.aA 56 56 (dq hd 56) rfl;exact m_ (q:=kQ 3) (k:=9) (v:=lQ) hs hI hl (dq hd 51) (fun M hM=>aq.insert (eD eM (vD:=bM) (k:=(9:Int)) (v:=lQ) underlying119 (by exact v_) rfl (by exact e56) rfl rfl hM))),
   (fun _ _ _ hs hI hl hd=>by
    obtain⟨_,v_,rfl⟩:=hI.aA 51 53 (dq hd 51) rfl;exact sP (q:=kQ 3) hs zK hI hl rfl rfl rfl rfl rfl (kL zK) zK rfl (dq hd 51) ⟨dq hd 53,dq hd 55,dq hd 57,trivial⟩ zK (fun m hm=>⟨m,hm,rfl⟩) (aT (by exact v_) _)),
   (fun _ _ _ hs hI hl hd=>bO hs hI rfl (bK (n:=2) (rows:=[[D.i 0],[D.i 1]]) underlying25 sizeOf3 rfl rfl rfl zeroValue3 rfl rfl rfl rfl rfl rfl rfl _)),
   (fun _ _ _ hs hI hl hd=>by
    obtain⟨_,e52,rfl⟩:=hI.aA 50 52 (dq hd 50) rfl;obtain⟨_,e57,S8,TW,rfl⟩:=hI.aA 58 57 (dq hd 58) rfl;obtain⟨_,e58,rfl⟩:=hI.aA 59 58 (dq hd 59) rfl;exact bO hs hI ⟨S8,TW,rfl⟩ (ek call121 (by exact e52) (ck rfl (ck rfl (ck (by exact e57) (ck (by exact e58) rfl)))) (pM _ _ S8 [0,1] zD zD (cS.tS TW zD)).sub _)),
   (fun _ _ _ hs hI hl hd=>by
    obtain⟨_,eQ,rfl⟩:=hI.aA 0 15 (dq hd 0) rfl;obtain⟨_,e59,BZ,n59,rfl⟩:=hI.aA 60 59 (dq hd 60) rfl;exact k6 (k:=9) (v:=⟨[115,112,105,110,111,102,102],1,b9 BZ [0,1],some BZ,false⟩) hs hI hl (dq hd 0) ⟨_,rfl,rfl,rfl,rfl,BZ,n59,rfl,rfl⟩ (fun M hM=>aq.insert (eD eM (vD:=eZ) (k:=(9:Int)) (v:=⟨[115,112,105,110,111,102,102],1,b9 BZ [0,1],some BZ,false⟩) underlying123 (by exact eQ) rfl (by exact e59) rfl rfl hM))),
   (fun _ _ _ hs hI hl hd=>bO hs hI rfl (bP isAgg156 (by exact hI.cH.b3) _)),
   (fun _ _ _ hs hI hl hd=>bO hs hI rfl (bK (n:=2) (rows:=[[D.i 0],[D.i 11]]) underlying25 sizeOf3 rfl rfl rfl zeroValue3 rfl rfl rfl rfl rfl rfl rfl _)),
   (fun _ _ _ hs hI hl hd=>by
    obtain⟨_,e60,rfl⟩:=hI.aA 62 60 (dq hd 62) rfl;obtain⟨_,e61,rfl⟩:=hI.aA 63 61 (dq hd 63) rfl;exact bO hs hI rfl (ek call121 (by exact e60) (ck rfl (ck rfl (ck rfl (ck (by exact e61) rfl)))) (Si _ _ [0,11] zD zD).sub _)),
   (fun _ _ _ hs hI hl hd=>by
    obtain⟨_,eQ,rfl⟩:=hI.aA 0 15 (dq hd 0) rfl;obtain⟨_,e62,rfl⟩:=hI.aA 64 62 (dq hd 64) rfl;exact k6 (k:=10) (v:=⟨[101,120,99,104,97,110,103,101],1,b9 [] [0,11],none,false⟩) hs hI hl (dq hd 0) ⟨_,rfl,rfl,rfl,rfl,rfl,rfl⟩ (fun M hM=>aq.insert (eD eM (vD:=eZ) (k:=(10:Int)) (v:=⟨[101,120,99,104,97,110,103,101],1,b9 [] [0,11],none,false⟩) underlying123 (by exact eQ) rfl (by exact e62) rfl rfl hM))),
   (fun _ _ _ hs hI hl hd=>bO hs hI rfl (bP isAgg156 (by exact hI.cH.b3) _)),
   (fun _ _ _ hs hI hl hd=>bO hs hI rfl (bK (n:=3) (rows:=[[D.i 0],[D.i 3],[D.i 12]]) underlying25 sizeOf3 rfl rfl rfl zeroValue3 rfl rfl rfl rfl rfl rfl rfl _)),
   (fun _ _ _ hs hI hl hd=>by
    obtain⟨_,e63,rfl⟩:=hI.aA 66 63 (dq hd 66) rfl;obtain⟨_,e64,rfl⟩:=hI.aA 67 64 (dq hd 67) rfl;exact bO hs hI rfl (ek call121 (by exact e63) (ck rfl (ck rfl (ck rfl (ck (by exact e64) rfl)))) (Si _ _ [0,3,12] zD zD).sub _)),
   (fun _ _ _ hs hI hl hd=>by
    obtain⟨_,eQ,rfl⟩:=hI.aA 0 15 (dq hd 0) rfl;obtain⟨_,e65,rfl⟩:=hI.aA 68 65 (dq hd 68) rfl;exact k6 (k:=11) (v:=⟨[101,108,101,99,116],4,b9 [] [0,3,12],none,false⟩) hs hI hl (dq hd 0) ⟨_,rfl,rfl,rfl,rfl,rfl,rfl⟩ (fun M hM=>aq.insert (eD eM (vD:=eZ) (k:=(11:Int)) (v:=⟨[101,108,101,99,116],4,b9 [] [0,3,12],none,false⟩) underlying123 (by exact eQ) rfl (by exact e65) rfl rfl hM))),
   (fun _ _ _ hs hI hl hd=>bO hs hI rfl (bP isAgg156 (by exact hI.cH.b3) _)),
   (fun _ _ _ hs hI hl hd=>tg (q:=kQ 4) hs zK hI hl rfl rfl rfl rfl rfl rfl (kL zK) zK rfl zK zK (fun bY=>mF 55 gE bM bY)),
   (fun _ _ _ hs hI hl hd=>bO hs hI rfl (bP isAgg154 (by exact hI.cH.b1) _)),
   (fun _ _ _ hs hI hl hd=>by
    obtain⟨_,wa,rfl⟩:=hI.aA 71 67 (dq hd 71) rfl;obtain⟨_,e68,rfl⟩:=hI.aA 72 68 (dq hd 72) rfl;exact m_ (q:=kQ 4) (k:=4) (v:=lP) hs hI hl (dq hd 71) (fun M hM=>aq.insert (eD eM (vD:=bM) (k:=(4:Int)) (v:=lP) underlying119 (by exact wa) rfl (by exact e68) rfl rfl hM))),
   (fun _ _ _ hs hI hl hd=>bO hs hI rfl (aT (by exact hI.cH.b2) _)),
   (fun _ _ _ hs hI hl hd=>by
    obtain⟨_,wa,rfl⟩:=hI.aA 71 67 (dq hd 71) rfl;obtain⟨_,e69,rfl⟩:=hI.aA 74 69 (dq hd 74) rfl;exact m_ (q:=kQ 4) (k:=7) (v:=lL) hs hI hl (dq hd 71) (fun M hM=>aq.insert (eD eM (vD:=bM) (k:=(7:Int)) (v:=lL) underlying119 (by exact wa) rfl (by exact e69) rfl rfl hM))),
   (fun _ _ _ hs hI hl hd=>bO hs hI rfl (bP isAgg154 (by exact hI.cH.b1) _)),
   (fun _ _ _ hs hI hl hd=>by
    obtain⟨_,wa,rfl⟩:=hI.aA 71 67 (dq hd 71) rfl;obtain⟨_,e70,rfl⟩:=hI.aA 76 70 (dq hd 76) rfl;exact m_ (q:=kQ 4) (k:=8) (v:=lP) hs hI hl (dq hd 71) (fun M hM=>aq.insert (eD eM (vD:=bM) (k:=(8:Int)) (v:=lP) underlying119 (by exact wa) rfl (by exact e70) rfl rfl hM))),
   (fun _ _ _ hs hI hl hd=>by
    obtain⟨_,wa,rfl⟩:=hI.aA 71 67 (dq hd 71) rfl;exact sP (q:=kQ 4) hs zK hI hl rfl rfl rfl rfl rfl (kL zK) zK rfl (dq hd 71) ⟨dq hd 73,dq hd 75,dq hd 77,trivial⟩ zK (fun m hm=>⟨m,hm,rfl⟩) (aT (by exact wa) _)),
   (fun _ _ _ hs hI hl hd=>bO hs hI rfl (bK (n:=2) (rows:=[[D.i 0],[D.i 1]]) underlying25 sizeOf3 rfl rfl rfl zeroValue3 rfl rfl rfl rfl rfl rfl rfl _)),
   (fun _ _ _ hs hI hl hd=>by
    obtain⟨_,e66,rfl⟩:=hI.aA 70 66 (dq hd 70) rfl;obtain⟨_,e71,S9,TX,rfl⟩:=hI.aA 78 71 (dq hd 78) rfl;obtain⟨_,e72,rfl⟩:=hI.aA 79 72 (dq hd 79) rfl;exact bO hs hI ⟨S9,TX,rfl⟩ (ek call121 (by exact e66) (ck rfl (ck rfl (ck (by exact e71) (ck (by exact e72) rfl)))) (pM _ _ S9 [0,1] zD zD (cS.tS TX zD)).sub _)),
   (fun _ _ _ hs hI hl hd=>by
    obtain⟨_,eQ,rfl⟩:=hI.aA 0 15 (dq hd 0) rfl;obtain⟨_,e73,B0,n73,rfl⟩:=hI.aA 80 73 (dq hd 80) rfl;exact k6 (k:=12) (v:=⟨[101,120,101,114,99,105,115,101],3,b9 B0 [0,1],some B0,false⟩) hs hI hl (dq hd 0) ⟨_,rfl,rfl,rfl,rfl,B0,n73,rfl,rfl⟩ (fun M hM=>aq.insert (eD eM (vD:=eZ) (k:=(12:Int)) (v:=⟨[101,120,101,114,99,105,115,101],3,b9 B0 [0,1],some B0,false⟩) underlying123 (by exact eQ) rfl (by exact e73) rfl rfl hM))),
   (fun _ _ _ hs hI hl hd=>bO hs hI rfl (bP isAgg156 (by exact hI.cH.b3) _)),
   (fun _ _ _ hs hI hl hd=>tg (q:=kQ 5) hs zK hI hl rfl rfl rfl rfl rfl rfl (kL zK) zK rfl zK zK (fun bY=>mF 56 gE bM bY)),
   (fun _ _ _ hs hI hl hd=>bO hs hI rfl (bP isAgg154 (by exact hI.cH.b1) _)),
   (fun _ _ _ hs hI hl hd=>by
    obtain⟨_,AQ,rfl⟩:=hI.aA 83 75 (dq hd 83) rfl;obtain⟨_,Ic,rfl⟩:=hI.aA 84 76 (dq hd 84) rfl;exact m_ (q:=kQ 5) (k:=7) (v:=lP) hs hI hl (dq hd 83) (fun M hM=>aq.insert (eD eM (vD:=bM) (k:=(7:Int)) (v:=lP) underlying119 (by exact AQ) rfl (by exact Ic) rfl rfl hM))),
   (fun _ _ _ hs hI hl hd=>by
    obtain⟨_,AQ,rfl⟩:=hI.aA 83 75 (dq hd 83) rfl;exact sP (q:=kQ 5) hs zK hI hl rfl rfl rfl rfl rfl (kL zK) zK rfl (dq hd 83) ⟨dq hd 85,trivial⟩ zK (fun m hm=>⟨m,hm,rfl⟩) (aT (by exact AQ) _)),
   (fun _ _ _ hs hI hl hd=>bO hs hI rfl (bK (n:=1) (rows:=[[D.i 0]]) underlying25 sizeOf3 rfl rfl rfl zeroValue3 rfl rfl rfl rfl rfl rfl rfl _)),
   (fun _ _ _ hs hI hl hd=>by
    obtain⟨_,Ib,rfl⟩:=hI.aA 82 74 (dq hd 82) rfl;obtain⟨_,Ie,S_,TY,rfl⟩:=hI.aA 86 77 (dq hd 86) rfl;obtain⟨_,If,rfl⟩:=hI.aA 87 78 (dq hd 87) rfl;exact bO hs hI ⟨S_,TY,rfl⟩ (ek call121 (by exact Ib) (ck rfl (ck rfl (ck (by exact Ie) (ck (by exact If) rfl)))) (pM _ _ S_ [0] zD zD (cS.tS TY zD)).sub _)),
   (fun _ _ _ hs hI hl hd=>by
    obtain⟨_,eQ,rfl⟩:=hI.aA 0 15 (dq hd 0) rfl;obtain⟨_,Ig,B1,n79,rfl⟩:=hI.aA 88 79 (dq hd 88) rfl;exact k6 (k:=13) (v:=⟨[99,97,112,105,116,97,108],1,b9 B1 [0],some B1,false⟩) hs hI hl (dq hd 0) ⟨_,rfl,rfl,rfl,rfl,B1,n79,rfl,rfl⟩ (fun M hM=>aq.insert (eD eM (vD:=eZ) (k:=(13:Int)) (v:=⟨[99,97,112,105,116,97,108],1,b9 B1 [0],some B1,false⟩) underlying123 (by exact eQ) rfl (by exact Ig) rfl rfl hM))),
   (fun _ _ _ hs hI hl hd=>bO hs hI rfl (bP isAgg156 (by exact hI.cH.b3) _)),
   (fun _ _ _ hs hI hl hd=>tg (q:=kQ 6) hs zK hI hl rfl rfl rfl rfl rfl rfl (kL zK) zK rfl zK zK (fun bY=>mF 57 gE bM bY)),
   (fun _ _ _ hs hI hl hd=>bO hs hI rfl (aT (by exact hI.cH.b2) _)),
   (fun _ _ _ hs hI hl hd=>by
    obtain⟨_,AR,rfl⟩:=hI.aA 91 81 (dq hd 91) rfl;obtain⟨_,Ii,rfl⟩:=hI.aA 92 82 (dq hd 92) rfl;exact m_ (q:=kQ 6) (k:=7) (v:=lL) hs hI hl (dq hd 91) (fun M hM=>aq.insert (eD eM (vD:=bM) (k:=(7:Int)) (v:=lL) underlying119 (by exact AR) rfl (by exact Ii) rfl rfl hM))),
   (fun _ _ _ hs hI hl hd=>by
    obtain⟨_,AR,rfl⟩:=hI.aA 91 81 (dq hd 91) rfl;exact sP (q:=kQ 6) hs zK hI hl rfl rfl rfl rfl rfl (kL zK) zK rfl (dq hd 91) ⟨dq hd 93,trivial⟩ zK (fun m hm=>⟨m,hm,rfl⟩) (aT (by exact AR) _)),
   (fun _ _ _ hs hI hl hd=>bO hs hI rfl (bK (n:=1) (rows:=[[D.i 0]]) underlying25 sizeOf3 rfl rfl rfl zeroValue3 rfl rfl rfl rfl rfl rfl rfl _)),
   (fun _ _ _ hs hI hl hd=>by
    obtain⟨_,Ih,rfl⟩:=hI.aA 90 80 (dq hd 90) rfl;obtain⟨_,Ij,S',TZ,rfl⟩:=hI.aA 94 83 (dq hd 94) rfl;obtain⟨_,Ik,rfl⟩:=hI.aA 95 84 (dq hd 95) rfl;exact bO hs hI ⟨S',TZ,rfl⟩ (ek call121 (by exact Ih) (ck rfl (ck rfl (ck (by exact Ij) (ck (by exact Ik) rfl)))) (pM _ _ S' [0] zD zD (cS.tS TZ zD)).sub _)),
   (fun _ _ _ hs hI hl hd=>by
    obtain⟨_,eQ,rfl⟩:=hI.aA 0 15 (dq hd 0) rfl;obtain⟨_,e85,B2,n85,rfl⟩:=hI.aA 96 85 (dq hd 96) rfl;exact k6 (k:=14) (v:=⟨[99,97,108,108],1,b9 B2 [0],some B2,false⟩) hs hI hl (dq hd 0) ⟨_,rfl,rfl,rfl,rfl,B2,n85,rfl,rfl⟩ (fun M hM=>aq.insert (eD eM (vD:=eZ) (k:=(14:Int)) (v:=⟨[99,97,108,108],1,b9 B2 [0],some B2,false⟩) underlying123 (by exact eQ) rfl (by exact e85) rfl rfl hM))),
   (fun _ _ _ hs hI hl hd=>bO hs hI rfl (bP isAgg156 (by exact hI.cH.b3) _)),
   (fun _ _ _ hs hI hl hd=>tg (q:=kQ 7) hs zK hI hl rfl rfl rfl rfl rfl rfl (kL zK) zK rfl zK zK (fun bY=>mF 58 gE bM bY)),
   (fun _ _ _ hs hI hl hd=>bO hs hI rfl (aT (by exact hI.cH.b2) _)),
   (fun _ _ _ hs hI hl hd=>by
    obtain⟨_,Il,rfl⟩:=hI.aA 99 87 (dq hd 99) rfl;obtain⟨_,e88,rfl⟩:=hI.aA 100 88 (dq hd 100) rfl;exact m_ (q:=kQ 7) (k:=7) (v:=lL) hs hI hl (dq hd 99) (fun M hM=>aq.insert (eD eM (vD:=bM) (k:=(7:Int)) (v:=lL) underlying119 (by exact Il) rfl (by exact e88) rfl rfl hM))),
   (fun _ _ _ hs hI hl hd=>by
    obtain⟨_,Il,rfl⟩:=hI.aA 99 87 (dq hd 99) rfl;exact sP (q:=kQ 7) hs zK hI hl rfl rfl rfl rfl rfl (kL zK) zK rfl (dq hd 99) ⟨dq hd 101,trivial⟩ zK (fun m hm=>⟨m,hm,rfl⟩) (aT (by exact Il) _)),
   (fun _ _ _ hs hI hl hd=>bO hs hI rfl (bK (n:=1) (rows:=[[D.i 0]]) underlying25 sizeOf3 rfl rfl rfl zeroValue3 rfl rfl rfl rfl rfl rfl rfl _)),
   (fun _ _ _ hs hI hl hd=>by
    obtain⟨_,e86,rfl⟩:=hI.aA 98 86 (dq hd 98) rfl;obtain⟨_,e89,Ta,T0,rfl⟩:=hI.aA 102 89 (dq hd 102) rfl;obtain⟨_,e90,rfl⟩:=hI.aA 103 90 (dq hd 103) rfl;exact bO hs hI ⟨Ta,T0,rfl⟩ (ek call121 (by exact e86) (ck rfl (ck rfl (ck (by exact e89) (ck (by exact e90) rfl)))) (pM _ _ Ta [0] zD zD (cS.tS T0 zD)).sub _)),
   (fun _ _ _ hs hI hl hd=>by
    obtain⟨_,eQ,rfl⟩:=hI.aA 0 15 (dq hd 0) rfl;obtain⟨_,e91,B3,n91,rfl⟩:=hI.aA 104 91 (dq hd 104) rfl;exact k6 (k:=15) (v:=⟨[112,114,105,99,101],4,b9 B3 [0],some B3,false⟩) hs hI hl (dq hd 0) ⟨_,rfl,rfl,rfl,rfl,B3,n91,rfl,rfl⟩ (fun M hM=>aq.insert (eD eM (vD:=eZ) (k:=(15:Int)) (v:=⟨[112,114,105,99,101],4,b9 B3 [0],some B3,false⟩) underlying123 (by exact eQ) rfl (by exact e91) rfl rfl hM))),
   (fun _ _ _ hs hI hl hd=>bO hs hI rfl (aT (by exact hI.cH.b5) _)),
   (fun _ _ _ hs hI hl hd=>bO hs hI rfl (bP isAgg156 (by exact hI.cH.b3) _)),
   (fun _ _ _ hs hI hl hd=>tg (q:=kQ 8) hs zK hI hl rfl rfl rfl rfl rfl rfl (kL zK) zK rfl zK zK (fun bY=>mF 59 gE bM bY)),
   (fun _ _ _ hs hI hl hd=>bO hs hI rfl (bP isAgg154 (by exact hI.cH.b1) _)),
   (fun _ _ _ hs hI hl hd=>by
    obtain⟨_,Im,rfl⟩:=hI.aA 108 94 (dq hd 108) rfl;obtain⟨_,e95,rfl⟩:=hI.aA 109 95 (dq hd 109) rfl;exact m_ (q:=kQ 8) (k:=8) (v:=lP) hs hI hl (dq hd 108) (fun M hM=>aq.insert (eD eM (vD:=bM) (k:=(8:Int)) (v:=lP) underlying119 (by exact Im) rfl (by exact e95) rfl rfl hM))),
   (fun _ _ _ hs hI hl hd=>by
    obtain⟨_,Im,rfl⟩:=hI.aA 108 94 (dq hd 108) rfl;exact sP (q:=kQ 8) hs zK hI hl rfl rfl rfl rfl rfl (kL zK) zK rfl (dq hd 108) ⟨dq hd 110,trivial⟩ zK (fun m hm=>⟨m,hm,rfl⟩) (aT (by exact Im) _)),
   (fun _ _ _ hs hI hl hd=>bO hs hI rfl (bK (n:=2) (rows:=[[D.i 1],[D.i 2]]) underlying25 sizeOf3 rfl rfl rfl zeroValue3 rfl rfl rfl rfl rfl rfl rfl _)),
   (fun _ _ _ hs hI hl hd=>by
    obtain⟨_,e93,rfl⟩:=hI.aA 107 93 (dq hd 107) rfl;obtain⟨_,e96,Tb,T1,rfl⟩:=hI.aA 111 96 (dq hd 111) rfl;obtain⟨_,e97,rfl⟩:=hI.aA 112 97 (dq hd 112) rfl;exact bO hs hI ⟨Tb,T1,rfl⟩ (ek call121 (by exact e93) (ck rfl (ck rfl (ck (by exact e96) (ck (by exact e97) rfl)))) (pM _ _ Tb [1,2] zD zD (cS.tS T1 zD)).sub _)),
   (fun _ _ _ hs hI hl hd=>by
    obtain⟨_,e92,rfl⟩:=hI.aA 106 92 (dq hd 106) rfl;obtain⟨_,e98,Tc,n98,rfl⟩:=hI.aA 113 98 (dq hd 113) rfl;exact bO hs hI ⟨Tc,n98,rfl⟩ (ek call123 (by exact e92) (ck (by exact e98) rfl) (Xn _ _ _ Tc) _)),
   (fun _ _ _ hs hI hl hd=>by
    obtain⟨_,eQ,rfl⟩:=hI.aA 0 15 (dq hd 0) rfl;obtain⟨_,e99,B4,n99,rfl⟩:=hI.aA 114 99 (dq hd 114) rfl;exact k6 (k:=16) (v:=⟨[114,97,116,101],4,b9 B4 [1,2],some B4,true⟩) hs hI hl (dq hd 0) ⟨_,rfl,rfl,rfl,rfl,B4,n99,rfl,rfl⟩ (fun M hM=>aq.insert (eD eM (vD:=eZ) (k:=(16:Int)) (v:=⟨[114,97,116,101],4,b9 B4 [1,2],some B4,true⟩) underlying123 (by exact eQ) rfl (by exact e99) rfl rfl hM))),
   (fun _ _ _ hs hI hl hd=>bO hs hI rfl (aT (by exact hI.cH.b4) _)),
   (fun _ _ _ hs hI hl hd=>by
    obtain⟨_,abp,rfl⟩:=hI.aA 116 100 (dq hd 116) rfl;exact bO hs hI ⟨eA,cS.refl _,rfl⟩ (ek call122 (by exact abp) rfl (Ax _) _)),
   (fun _ _ _ hs hI hl hd=>by
    obtain⟨_,eQ,rfl⟩:=hI.aA 0 15 (dq hd 0) rfl;obtain⟨_,abq,BR,ahQ,rfl⟩:=hI.aA 117 101 (dq hd 117) rfl;exact k6 (k:=17) (v:=⟨[105,115,115,117,101],2,b9 BR [2],some BR,false⟩) hs hI hl (dq hd 0) ⟨_,rfl,rfl,rfl,rfl,BR,ahQ,rfl,rfl⟩ (fun M hM=>aq.insert (eD eM (vD:=eZ) (k:=(17:Int)) (v:=⟨[105,115,115,117,101],2,b9 BR [2],some BR,false⟩) underlying123 (by exact eQ) rfl (by exact abq) rfl rfl hM))),
   (fun _ _ _ hs hI hl hd=>bO hs hI rfl (aT (by exact hI.cH.b4) _)),
   (fun _ _ _ hs hI hl hd=>by
    obtain⟨_,abr,rfl⟩:=hI.aA 119 102 (dq hd 119) rfl;exact bO hs hI ⟨eA,cS.refl _,rfl⟩ (ek call122 (by exact abr) rfl (Ax _) _)),
   (fun _ _ _ hs hI hl hd=>by
    obtain⟨_,eQ,rfl⟩:=hI.aA 0 15 (dq hd 0) rfl;obtain⟨_,abs,BS,TS,rfl⟩:=hI.aA 120 103 (dq hd 120) rfl;exact k6 (k:=18) (v:=⟨[99,97,110,99,101,108],2,b9 BS [2],some BS,false⟩) hs hI hl (dq hd 0) ⟨_,rfl,rfl,rfl,rfl,BS,TS,rfl,rfl⟩ (fun M hM=>aq.insert (eD eM (vD:=eZ) (k:=(18:Int)) (v:=⟨[99,97,110,99,101,108],2,b9 BS [2],some BS,false⟩) underlying123 (by exact eQ) rfl (by exact abs) rfl rfl hM))),
   (fun _ _ _ hs hI hl hd=>by
    obtain⟨_,eQ,rfl⟩:=hI.aA 0 15 (dq hd 0) rfl;exact bO hs hI rfl (aT (by exact eQ) _)),
   (fun _ _ _ hs hI hl hd=>by
    obtain⟨_,abt,rfl⟩:=hI.aA 122 104 (dq hd 122) rfl;exact bO hs hI rfl (zX (by exact abt) _)),trivial⟩
 ·intro listed e ob hs dW hI;exact abE hs dW hI
 ·intro m hA;refine J.ret ?_;exact⟨m,[_],hA,rfl,Sub.refl _⟩
end Go.T
