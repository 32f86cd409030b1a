/-
  Contracts of the functions that the statement reaches, and the logic in which they are proved (no condition): parts W8, W9, W10, W11, W12, W13, W14, W15, W16, W17, W18, W19, W20, W21, W22, W23, W24, W25, W26, W71.
-/
import Derived.Test.YtoaceanbddegbaaGreatDoorA08
set_option linter.all false
namespace Go.T
open Go Go.Proofs Go.Proofs.Tryz
set_option maxRecDepth 20000
structure Yd(a b:Entry)where
 pa:List dM
 ra:List dM
 pb:List dM
 rb:List dM
 kf:a.lines=pa++ra
 nD:b.lines=pb++rb
 hn:pa.length=pb.length
 hp:jJ a b=mZ ra rb
theorem Yc(a b:Entry):Fc Tryz.prog 88 [.agg (kC a),.agg (kC b)] (.i (jJ a b)):=by
 refine bE func88 ntmps88 results88 ?_;refine U.rh 0 2 rfl rfl (fun hb=>?_);simp only[List.length_map,aH]at hb;have j9:=hb;refine U.rh 1 2 rfl rfl (fun hb=>?_);simp only[List.length_map,aH]at hb;refine U.seq<|rg<|.W rfl (oG 0 rfl rfl)<|.W rfl (oG 1 rfl rfl)<|.ag rfl rfl<|.nil<|U.seq<|U.seq<|rg<|.P rfl (bJ (n:=0) 42 0 underlying45 sizeOf42 rfl rfl)<|.R rfl (bP isAgg42 rfl rfl rfl)<|.P rfl (bJ (n:=0) 42 0 underlying45 sizeOf42 rfl rfl)<|.R rfl (bP isAgg42 rfl rfl rfl)<|.P rfl (wi rfl rfl)<|.nil<|U.cond rfl (fun h1=>?_) (fun h1=>?_)
 ·refine U.seq<|U.seq<|rg<|.P rfl (bJ (n:=0) 42 0 underlying45 sizeOf42 rfl rfl)<|.R rfl (bP isAgg42 rfl rfl rfl)<|.P rfl (bJ (n:=0) 42 0 underlying45 sizeOf42 rfl rfl)<|.R rfl (bP isAgg42 rfl rfl rfl)<|.P rfl (bY rfl rfl)<|.nil<|U.cond rfl (fun h2=>?_) (fun h2=>?_)
  ·refine U.seq<|rg<|.ag rfl rfl<|.nil<|U.ret (?_);exact bS rfl (Sub.int (by grind[jJ]))
  ·refine U.skip<|U.seq<|rg<|.ag rfl rfl<|.nil<|U.ret (?_);exact bS rfl (Sub.int (by grind[jJ]))
 ·refine U.skip<|U.seq<|U.seq<|rg<|.P rfl (bJ (n:=0) 9 1 underlying45 sizeOf9 rfl rfl)<|.R rfl (bP isAgg9 rfl rfl rfl)<|.P rfl (bJ (n:=0) 9 1 underlying45 sizeOf9 rfl rfl)<|.R rfl (bP isAgg9 rfl rfl rfl)<|.P rfl (aj call121 rfl (HD _ _))<|.ag rfl rfl<|.nil<|U.seq<|rg<|.mv rfl rfl<|.P rfl (wi rfl rfl)<|.nil<|U.cond rfl (fun h3=>?_) (fun h3=>?_)
  ·refine U.seq<|rg<|.mv rfl rfl<|.ag rfl rfl<|.nil<|U.ret (?_);exact bS rfl (Sub.int (by grind[jJ]))
  ·refine U.skip<|U.seq<|U.seq<|rg<|.ag rfl rfl<|.nil<|U.block<|U.loop (ι:=Yd a b) (fun sx=>[(2,.box 0 0),(3,.box 1 0),(6,.i sx.pa.length)]) (fun sx=>[(0,.cells (kC a)),(1,.cells (kC b))]) (fun sx=>sx.ra.length) ⟨[],a.lines,[],b.lines,rfl,rfl,rfl,by grind[jJ]⟩ ?_ ?_
   ·exact Le.mk rfl (.n 3 rfl rfl .nil) (.cons rfl rfl (.cons rfl rfl .nil))
   ·rintro⟨pa,ra,pb,rb,kf,nD,hn,hp⟩;dsimp only;have sG:=congrArg List.length kf;have ke:=congrArg List.length nD;simp only[List.length_append]at sG ke;rcases ra with _|⟨x,ra⟩<;>rcases rb with _|⟨y,rb⟩<;>simp only[List.length_cons,List.length_nil]at sG ke
    ·skip;refine U.seq (U.seq (U.cH [.p,.p,.r,.p,.p,.p,.p,.p,.r,.p,.p,.p] ?_));refine .mv rfl rfl<|.P rfl (bJ (n:=0) 43 2 underlying45 sizeOf43 rfl rfl)<|.R rfl (bP isAgg43 rfl rfl rfl)<|.P rfl (cC underlying43 rfl)<|.P rfl (bY rfl rfl)<|.mv rfl rfl<|.gT rfl (.inl rfl) rfl rfl rfl (fun hg=>pk (fun _=>bG rfl _))<|.gT rfl (.inl rfl) rfl rfl rfl (fun hg=>pk (fun _=>bJ (n:=0) 43 2 underlying45 sizeOf43 rfl rfl _))<|.gT rfl (.inr rfl) rfl rfl rfl (fun hg=>rk (bP isAgg43 (bI rfl hg) rfl rfl))<|.gT rfl (.inl rfl) rfl rfl rfl (fun hg=>pk (fun _=>cC underlying43 (bI rfl hg) _))<|.gT rfl (.inl rfl) rfl rfl rfl (fun hg=>pk (fun _=>bY (bI rfl hg) (bI rfl hg) _))<|.P rfl (kN rfl rfl)<|.nil<|U.fG rfl (by simp at sG ke⊢;omega)<|U.exit (fc (eY ?_));refine U.seq<|U.seq<|rg<|.P rfl (bJ (n:=0) 43 2 underlying45 sizeOf43 rfl rfl)<|.R rfl (bP isAgg43 rfl rfl rfl)<|.P rfl (cC underlying43 rfl)<|.P rfl (bJ (n:=0) 43 2 underlying45 sizeOf43 rfl rfl)<|.R rfl (bP isAgg43 rfl rfl rfl)<|.P rfl (cC underlying43 rfl)<|.P rfl (bY rfl rfl)<|.nil<|U.cond rfl (fun h4=>?_) (fun h4=>?_)
     ·refine U.seq<|rg<|.ag rfl rfl<|.nil<|U.ret (?_);exact bS rfl (Sub.int (by grind[jJ]))
     ·refine U.skip<|U.seq<|U.seq<|rg<|.P rfl (bJ (n:=0) 43 2 underlying45 sizeOf43 rfl rfl)<|.R rfl (bP isAgg43 rfl rfl rfl)<|.P rfl (cC underlying43 rfl)<|.P rfl (bJ (n:=0) 43 2 underlying45 sizeOf43 rfl rfl)<|.R rfl (bP isAgg43 rfl rfl rfl)<|.P rfl (cC underlying43 rfl)<|.P rfl (ju rfl rfl)<|.nil<|U.cond rfl (fun h5=>?_) (fun h5=>?_)
      ·refine U.seq<|rg<|.ag rfl rfl<|.nil<|U.ret (?_);exact bS rfl (Sub.int (by grind[jJ]))
      ·refine U.skip<|U.seq<|rg<|.ag rfl rfl<|.nil<|U.ret (?_);exact bS rfl (Sub.int (by grind[jJ,mZ]))
    ·skip;refine U.seq (U.seq (U.cH [.p,.p,.r,.p,.p,.p,.p,.p,.r,.p,.p,.p] ?_));refine .mv rfl rfl<|.P rfl (bJ (n:=0) 43 2 underlying45 sizeOf43 rfl rfl)<|.R rfl (bP isAgg43 rfl rfl rfl)<|.P rfl (cC underlying43 rfl)<|.P rfl (bY rfl rfl)<|.mv rfl rfl<|.gT rfl (.inl rfl) rfl rfl rfl (fun hg=>pk (fun _=>bG rfl _))<|.gT rfl (.inl rfl) rfl rfl rfl (fun hg=>pk (fun _=>bJ (n:=0) 43 2 underlying45 sizeOf43 rfl rfl _))<|.gT rfl (.inr rfl) rfl rfl rfl (fun hg=>rk (bP isAgg43 (bI rfl hg) rfl rfl))<|.gT rfl (.inl rfl) rfl rfl rfl (fun hg=>pk (fun _=>cC underlying43 (bI rfl hg) _))<|.gT rfl (.inl rfl) rfl rfl rfl (fun hg=>pk (fun _=>bY (bI rfl hg) (bI rfl hg) _))<|.P rfl (kN rfl rfl)<|.nil<|U.fG rfl (by simp at sG ke⊢;omega)<|U.exit (fc (eY ?_));refine U.seq<|U.seq<|rg<|.P rfl (bJ (n:=0) 43 2 underlying45 sizeOf43 rfl rfl)<|.R rfl (bP isAgg43 rfl rfl rfl)<|.P rfl (cC underlying43 rfl)<|.P rfl (bJ (n:=0) 43 2 underlying45 sizeOf43 rfl rfl)<|.R rfl (bP isAgg43 rfl rfl rfl)<|.P rfl (cC underlying43 rfl)<|.P rfl (bY rfl rfl)<|.nil<|U.cond rfl (fun h6=>?_) (fun h6=>?_)
     ·refine U.seq<|rg<|.ag rfl rfl<|.nil<|U.ret (?_);exact bS rfl (Sub.int (by grind[jJ,mZ]))
     ·refine U.skip<|U.seq<|U.seq<|rg<|.P rfl (bJ (n:=0) 43 2 underlying45 sizeOf43 rfl rfl)<|.R rfl (bP isAgg43 rfl rfl rfl)<|.P rfl (cC underlying43 rfl)<|.P rfl (bJ (n:=0) 43 2 underlying45 sizeOf43 rfl rfl)<|.R rfl (bP isAgg43 rfl rfl rfl)<|.P rfl (cC underlying43 rfl)<|.P rfl (ju rfl rfl)<|.nil<|U.cond rfl (fun h7=>?_) (fun h7=>?_)
      ·refine U.seq<|rg<|.ag rfl rfl<|.nil<|U.ret (?_);exact bS rfl (Sub.int (by grind[jJ]))
      ·refine U.skip<|U.seq<|rg<|.ag rfl rfl<|.nil<|U.ret (?_);exact bS rfl (Sub.int (by grind[jJ]))
    ·skip;refine U.seq (U.seq (U.cH [.p,.p,.r,.p,.p,.p,.p,.p,.r,.p,.p,.p] ?_));refine .mv rfl rfl<|.P rfl (bJ (n:=0) 43 2 underlying45 sizeOf43 rfl rfl)<|.R rfl (bP isAgg43 rfl rfl rfl)<|.P rfl (cC underlying43 rfl)<|.P rfl (bY rfl rfl)<|.mv rfl rfl<|.gT rfl (.inl rfl) rfl rfl rfl (fun hg=>pk (fun _=>bG rfl _))<|.gT rfl (.inl rfl) rfl rfl rfl (fun hg=>pk (fun _=>bJ (n:=0) 43 2 underlying45 sizeOf43 rfl rfl _))<|.gT rfl (.inr rfl) rfl rfl rfl (fun hg=>rk (bP isAgg43 (bI rfl hg) rfl rfl))<|.gT rfl (.inl rfl) rfl rfl rfl (fun hg=>pk (fun _=>cC underlying43 (bI rfl hg) _))<|.gT rfl (.inl rfl) rfl rfl rfl (fun hg=>pk (fun _=>bY (bI rfl hg) (bI rfl hg) _))<|.P rfl (kN rfl rfl)<|.nil<|U.fG rfl (by simp at sG ke⊢;omega)<|U.exit (fc (eY ?_));refine U.seq<|U.seq<|rg<|.P rfl (bJ (n:=0) 43 2 underlying45 sizeOf43 rfl rfl)<|.R rfl (bP isAgg43 rfl rfl rfl)<|.P rfl (cC underlying43 rfl)<|.P rfl (bJ (n:=0) 43 2 underlying45 sizeOf43 rfl rfl)<|.R rfl (bP isAgg43 rfl rfl rfl)<|.P rfl (cC underlying43 rfl)<|.P rfl (bY rfl rfl)<|.nil<|U.cond rfl (fun h8=>?_) (fun h8=>?_)
     ·refine U.seq<|rg<|.ag rfl rfl<|.nil<|U.ret (?_);exact bS rfl (Sub.int (by grind[jJ]))
     ·refine U.skip<|U.seq<|U.seq<|rg<|.P rfl (bJ (n:=0) 43 2 underlying45 sizeOf43 rfl rfl)<|.R rfl (bP isAgg43 rfl rfl rfl)<|.P rfl (cC underlying43 rfl)<|.P rfl (bJ (n:=0) 43 2 underlying45 sizeOf43 rfl rfl)<|.R rfl (bP isAgg43 rfl rfl rfl)<|.P rfl (cC underlying43 rfl)<|.P rfl (ju rfl rfl)<|.nil<|U.cond rfl (fun h9=>?_) (fun h9=>?_)
      ·refine U.seq<|rg<|.ag rfl rfl<|.nil<|U.ret (?_);exact bS rfl (Sub.int (by grind[jJ,mZ]))
      ·refine U.skip<|U.seq<|rg<|.ag rfl rfl<|.nil<|U.ret (?_);exact bS rfl (Sub.int (by grind[jJ]))
    ·skip;refine U.seq (U.seq (U.cH [.p,.p,.r,.p,.p,.p,.p,.p,.r,.p,.p,.p] ?_));refine .mv rfl rfl<|.P rfl (bJ (n:=0) 43 2 underlying45 sizeOf43 rfl rfl)<|.R rfl (bP isAgg43 rfl rfl rfl)<|.P rfl (cC underlying43 rfl)<|.P rfl (bY rfl rfl)<|.mv rfl rfl<|.gT rfl (.inl rfl) rfl rfl rfl (fun hg=>pk (fun _=>bG rfl _))<|.gT rfl (.inl rfl) rfl rfl rfl (fun hg=>pk (fun _=>bJ (n:=0) 43 2 underlying45 sizeOf43 rfl rfl _))<|.gT rfl (.inr rfl) rfl rfl rfl (fun hg=>rk (bP isAgg43 (bI rfl hg) rfl rfl))<|.gT rfl (.inl rfl) rfl rfl rfl (fun hg=>pk (fun _=>cC underlying43 (bI rfl hg) _))<|.gT rfl (.inl rfl) rfl rfl rfl (fun hg=>pk (fun _=>bY (bI rfl hg) (bI rfl hg) _))<|.P rfl (kN rfl rfl)<|.nil<|U.iY rfl (by simp at sG ke⊢;omega)<|U.skip<|U.seq<|U.block<|U.seq (U.seq (U.qY [.p,.r,.p,.p,.p,.p,.r,.p,.p,.p,.p,.p] mS zK ?_));refine .P rfl (bJ (n:=0) 43 2 underlying45 sizeOf43 rfl rfl)<|.R rfl (bP isAgg43 rfl rfl rfl)<|.mv rfl rfl<|.P rfl (iR underlying43 sizeOf48 rfl rfl zO (bb iZ kf rfl))<|.P rfl (p7 isAgg48 sizeOf48 rfl rfl)<|.P rfl (bJ (n:=0) 43 2 underlying45 sizeOf43 rfl rfl)<|.R rfl (bP isAgg43 rfl rfl rfl)<|.mv rfl rfl<|.P rfl (iR underlying43 sizeOf48 rfl rfl zO (bb iZ nD (by rw[hn])))<|.P rfl (p7 isAgg48 sizeOf48 rfl rfl)<|.P rfl (aj call122 rfl (Yk _ _))<|.ag rfl rfl<|.nil<|U.seq<|rg<|.mv rfl rfl<|.P rfl (wi rfl rfl)<|.nil<|U.cond rfl (fun gE=>?_) (fun gE=>?_)
     ·refine U.seq<|rg<|.mv rfl rfl<|.ag rfl rfl<|.nil<|U.ret (lS (u4 (lS (?_))));exact bS rfl (Sub.int (by grind[jJ,mZ]))
     ·refine U.skip<|U.seq (U.qY [.p,.r,.p,.p,.p,.p,.p,.r,.p,.p,.p,.p,.p,.p] mS zK ?_);refine .P rfl (bJ (n:=0) 43 2 underlying45 sizeOf43 rfl rfl)<|.R rfl (bP isAgg43 rfl rfl rfl)<|.mv rfl rfl<|.P rfl (iR underlying43 sizeOf48 rfl rfl zO (bb iZ kf rfl))<|.P rfl (oH (n:=0) 37 2 underlying48 sizeOf37 rfl rfl rfl)<|.P rfl (cG isAgg37 rfl)<|.P rfl (bJ (n:=0) 43 2 underlying45 sizeOf43 rfl rfl)<|.R rfl (bP isAgg43 rfl rfl rfl)<|.mv rfl rfl<|.P rfl (iR underlying43 sizeOf48 rfl rfl zO (bb iZ nD (by rw[hn])))<|.P rfl (oH (n:=0) 37 2 underlying48 sizeOf37 rfl rfl rfl)<|.P rfl (cG isAgg37 rfl)<|.P rfl (aj call123 rfl (YF _ _))<|.ag rfl rfl<|.nil<|U.seq<|rg<|.mv rfl rfl<|.P rfl (wi rfl rfl)<|.nil<|U.cond rfl (fun f_=>?_) (fun f_=>?_)
      ·refine U.seq<|rg<|.mv rfl rfl<|.ag rfl rfl<|.nil<|U.ret (lS (u4 (lS (?_))));exact bS rfl (Sub.int (by grind[jJ,mZ]))
      ·refine U.skip<|U.nil (dv ?_);refine rg<|.mv rfl rfl<|.P rfl (cn rfl rfl (aB zO))<|.ag rfl rfl<|.nil<|U.nil (dx ?_);exact⟨⟨pa++[x],ra,pb++[y],rb,by simp[kf],by simp[nD],by simp[hn],by grind[mZ]⟩,by simp,Le.mk rfl (.n 2 rfl rfl (.cons rfl (Sub.int zS) rfl .nil)) (.cons rfl rfl (.cons rfl rfl .nil))⟩
variable[bT]
structure ad1(s:ae)where
 pre:List UInt8
 rest:List UInt8
 hx:s=pre++rest
 hp:pre.all (fun c=>65≤c.toNat&&c.toNat≤90)=true
theorem Rk(s:ae):Fc Tryz.prog 72 [.str s] (.b (ig s)):=by
 refine bE func72 ntmps72 results72 ?_;refine U.qh 0 rfl (fun hb=>?_);simp only[aH]at hb;refine go []<|U.loop (ι:=ad1 s) (fun sx=>[(0,.str s),(5,.i s.length),(6,.i sx.pre.length)]) (fun sx=>[]) (fun sx=>sx.rest.length) ⟨[],s,rfl,rfl⟩ ?_ ?_
 ·exact Le.mk rfl (.n 3 rfl rfl .nil) .nil
 ·rintro⟨pre,rest,hx,hp⟩;dsimp only;rcases lc hx with⟨rfl,hl⟩|⟨x,rest,rfl,hl⟩
  ·skip;exact go []<|aQ (by simp at hl⊢;omega)<|go []<|an rfl (Sub.bool (by grind[ig]))
  ·refine go []<|bM zQ<|Rp zO (sR hx rfl)<|Rq (fun hg=>And.intro zO (sR hx rfl))<|br (fun h1=>?_) (fun h1=>?_)
   ·exact an rfl (Sub.bool (by grind[ig]))
   ·exact sd (aB zO)<|nx ⟨pre++[x],rest,by simp[hx],by grind⟩ zS (Le.mk rfl (.n 2 rfl rfl (.cons rfl (Sub.int zS) rfl .nil)) .nil)
theorem Rm(s:ae):Fc Tryz.prog 75 [.str s] (.b false):=by
 refine bE func75 ntmps75 results75 ?_;exact go []<|an rfl (Sub.bool zS)
theorem sh(a b:ae):Fc Tryz.prog 29 [.str a,.str b] (.i (dm a b)):=by
 refine bE func29 ntmps29 results29 ?_;refine go []<|oP (aj call75 rfl (Rm _))<|oP (aj call75 rfl (Rm _))<|aQ rfl<|aQ rfl<|br (fun h1=>?_) (fun h1=>?_)
 ·exact an rfl (Sub.int (by grind[dm]))
 ·refine br (fun h2=>?_) (fun h2=>?_)
  ·exact an rfl (Sub.int (by grind[dm]))
  ·exact an rfl (Sub.int (by grind[dm]))
end Go.T
namespace Go.T
open Go Go.Proofs Go.Proofs.Tryz
set_option maxRecDepth 20000
theorem Hm(s t:ae)(hl:s.length+t.length≤140737488355328):bh Tryz.prog 160 [.box 7000 0,.str t] [(7000,.fu 7001 s.length),(7001,.ba s)] (.bl [.i t.length,.raw .nilIface]) [(7000,.fu 7002 (s++t).length),(7002,.ba (s++t)),(7001,.dead)]:=by
 refine bh.mk' [4,5] func160 rfl ntmps160 rfl rfl rfl (fun t w=>results_tmp2 results160 t _ w) ?_;refine U.seq<|rg<|.ag rfl rfl<|.ag rfl rfl<|.nil<|U.seq<|rg<|.mv rfl rfl<|.W rfl (eu call207 rfl (HG 7000 7001 _ _) (.cons rfl rfl (.cons rfl rfl .nil)) rfl rfl)<|.nil<|U.seq<|rg<|.mv rfl rfl<|.mv rfl rfl<|.P rfl (yi rfl)<|.P rfl (bJ (n:=0) 217 1 underlying251 sizeOf217 rfl rfl)<|.R rfl (Lr (e:=0) isAgg217 rfl rfl rfl rfl)<|.mv rfl rfl<|.W rfl (Lk 7002 underlying217 underlying9 zS sizeOf5 typeInfo5 rfl zeroValue5 rfl rfl rfl rfl (.inl rfl) rfl hl)<|.P rfl (yi rfl)<|.P rfl (bJ (n:=0) 217 1 underlying251 sizeOf217 rfl rfl)<|.W rfl (Ly sizeOf217 rfl rfl rfl rfl zS)<|.nil<|U.seq<|rg<|.mv rfl rfl<|.P rfl (ko underlying9 rfl)<|.ag rfl rfl<|.ag rfl rfl<|.nil<|U.ret (?_);exact UC rfl rfl (Sub.refl _) (by exact Sub.refl _) (.eq rfl zS rfl (.cons rfl rfl (.cons rfl rfl .nil)))
theorem Xd(s:ae)(c:UInt8)(hl:s.length+1≤140737488355328):bh Tryz.prog 159 [.box 7000 0,.raw (.int .u8 c.toNat)] [(7000,.fu 7001 s.length),(7001,.ba s)] (.raw .nilIface) [(7000,.fu 7002 (s++[c]).length),(7002,.ba (s++[c])),(7001,.dead)]:=by
 refine xj func159 ntmps159 results159 ?_;refine U.seq<|rg<|.ag rfl rfl<|.nil<|U.seq<|rg<|.mv rfl rfl<|.W rfl (eu call207 rfl (HG 7000 7001 _ _) (.cons rfl rfl (.cons rfl rfl .nil)) rfl rfl)<|.nil<|U.seq<|rg<|.mv rfl rfl<|.mv rfl rfl<|.P rfl (yi rfl)<|.P rfl (bJ (n:=0) 217 1 underlying251 sizeOf217 rfl rfl)<|.R rfl (Lr (e:=0) isAgg217 rfl rfl rfl rfl)<|.mv rfl rfl<|.P rfl (cm (n:=1) (rows:=mW [c]) underlying217 sizeOf5 rfl rfl rfl zeroValue5 rfl rfl rfl rfl rfl rfl rfl)<|.W rfl (Lk 7002 underlying217 underlying217 zS sizeOf5 typeInfo5 rfl zeroValue5 rfl rfl rfl rfl (.inr ⟨_,rfl⟩) rfl hl)<|.P rfl (yi rfl)<|.P rfl (bJ (n:=0) 217 1 underlying251 sizeOf217 rfl rfl)<|.W rfl (Ly sizeOf217 rfl rfl rfl rfl zS)<|.nil<|U.seq<|rg<|.ag rfl rfl<|.nil<|U.ret (?_);exact wq rfl (by exact Sub.refl _) (.eq rfl zS rfl (.cons rfl rfl (.cons rfl rfl .nil)))
theorem Xe(s t:ae)(hl:s.length+t.length≤140737488355328):bh Tryz.prog 160 [.box 7000 0,.str t] [(7000,.fu 7002 s.length),(7002,.ba s)] (.bl [.i t.length,.raw .nilIface]) [(7000,.fu 7001 (s++t).length),(7001,.ba (s++t)),(7002,.dead)]:=by
 refine bh.mk' [4,5] func160 rfl ntmps160 rfl rfl rfl (fun t w=>results_tmp2 results160 t _ w) ?_;refine U.seq<|rg<|.ag rfl rfl<|.ag rfl rfl<|.nil<|U.seq<|rg<|.mv rfl rfl<|.W rfl (eu call207 rfl (HG 7000 7002 _ _) (.cons rfl rfl (.cons rfl rfl .nil)) rfl rfl)<|.nil<|U.seq<|rg<|.mv rfl rfl<|.mv rfl rfl<|.P rfl (yi rfl)<|.P rfl (bJ (n:=0) 217 1 underlying251 sizeOf217 rfl rfl)<|.R rfl (Lr (e:=0) isAgg217 rfl rfl rfl rfl)<|.mv rfl rfl<|.W rfl (Lk 7001 underlying217 underlying9 zS sizeOf5 typeInfo5 rfl zeroValue5 rfl rfl rfl rfl (.inl rfl) rfl hl)<|.P rfl (yi rfl)<|.P rfl (bJ (n:=0) 217 1 underlying251 sizeOf217 rfl rfl)<|.W rfl (Ly sizeOf217 rfl rfl rfl rfl zS)<|.nil<|U.seq<|rg<|.mv rfl rfl<|.P rfl (ko underlying9 rfl)<|.ag rfl rfl<|.ag rfl rfl<|.nil<|U.ret (?_);exact UC rfl rfl (Sub.refl _) (by exact Sub.refl _) (.eq rfl zS rfl (.cons rfl rfl (.cons rfl rfl .nil)))
theorem Et(u:Nat)(hu:u<18446744073709551616):Fc Tryz.prog 161 [.raw (.int .u64 u),.i 10] (.str (Lib.decDigits u)):=by
 refine bE func161 ntmps161 results161 ?_;exact go []<|oP (aj call208 rfl (abz _ zA))<|an rfl (Sub.refl _)
structure Y3(m:List Nat)where
 cur:List Nat
 hx:bp cur=bp m
 hl:cur.length≤m.length
theorem si(m:List Nat):Fc Tryz.prog 158 [bc m] (bc (bp m)):=by
 refine bE func158 ntmps158 results158 ?_;refine U.ec 0 rfl (fun hb=>?_);simp only[List.length_map,aH]at hb;refine U.seq<|rg<|.ag rfl rfl<|.nil<|U.seq<|U.block<|U.loop (ι:=Y3 m) (fun sx=>[(0,bc sx.cur)]) (fun sx=>[]) (fun sx=>sx.cur.length) ⟨m,rfl,by omega⟩ ?_ ?_
 ·exact Le.mk rfl (.s rfl rfl .nil) .nil
 ·rintro⟨cur,hx,hl⟩;dsimp only;rcases nS cur with rfl|⟨i,x,rfl⟩
  ·skip;refine U.seq (U.seq (U.cH [.p,.p,.p,.p,.p,.p,.p,.p,.p,.p,.p,.p] ?_));refine .mv rfl rfl<|.P rfl (cC underlying188 rfl)<|.P rfl (ju rfl rfl)<|.mv rfl rfl<|.off rfl (lk rfl rfl rfl zS)<|.off rfl (lk rfl rfl rfl zS)<|.off rfl (lk rfl rfl rfl zS)<|.off rfl (lk rfl rfl rfl zS)<|.off rfl (lk rfl rfl rfl zS)<|.off rfl (lk rfl rfl rfl zS)<|.off rfl (lk rfl rfl rfl zS)<|.P rfl (C0 rfl zS rfl)<|.nil<|U.fG rfl rfl<|U.exit (fc (eY ?_));refine U.seq<|rg<|.mv rfl rfl<|.ag rfl rfl<|.nil<|U.ret (?_);exact bS rfl (Sub.snap (by rw[←hx];rfl))
  ·skip;refine U.seq<|U.seq<|rg<|.mv rfl rfl<|.P rfl (cC underlying188 rfl)<|.P rfl (ju rfl rfl)<|.mv rfl rfl<|.p rfl (cN rfl rfl rfl zS) (fun _=>bG rfl _)<|.p rfl (cN rfl rfl rfl zS) (fun _=>bG rfl _)<|.p rfl (cN rfl rfl rfl zS) (fun _=>cC underlying188 rfl _)<|.p rfl (cN rfl rfl rfl zS) (fun _=>fp rfl rfl (aW zO (by simp at*;omega)) _)<|.p rfl (cN rfl rfl rfl zS) (fun _=>iR underlying188 sizeOf243 rfl rfl zS (Q4 (fun(n:Nat)=>[D.raw (.int .u64 (n:Int))]) i x rfl) _)<|.p rfl (cN rfl rfl rfl zS) (fun _=>cG isAgg243 rfl _)<|.p rfl (cN rfl rfl rfl zS) (fun _=>l5 rfl rfl _)<|.P rfl (qV rfl zS rfl)<|.nil<|U.cond rfl (fun h1=>?_) (fun h1=>?_)
   ·have a_:=h1;try simp only[bs]at a_
    refine U.skip<|U.block<|rg<|.mv rfl rfl<|.mv rfl rfl<|.P rfl (cC underlying188 rfl)<|.P rfl (fp rfl rfl (aW zO (by simp at*;omega)))<|.P rfl (kp underlying188 sizeOf243 rfl (h:=i.length) (r:=bD i) (.inl ⟨rfl,rfl⟩) (.inr ⟨_,_,rfl,(x7 rfl zS)⟩) zO zS zS)<|.ag rfl rfl<|.nil<|U.nil (dv ?_);refine U.nil (dx ?_);exact⟨⟨i,by rw[←hx,show x=0 by omega,tI],by simp at hl;omega⟩,by simp,Le.mk rfl (.s rfl rfl .nil) .nil⟩
   ·have a_:=h1;try simp only[bs]at a_
    refine U.exit (fc (eY ?_));refine U.seq<|rg<|.mv rfl rfl<|.ag rfl rfl<|.nil<|U.ret (?_);exact bS rfl (Sub.snap (by(rw[←hx,yS i zO])))
theorem N8(s:ae):Fc Tryz.prog 151 [.str s] (.bl [.str (digits s).1,.b (digits s).2]):=by
 refine pO func151 ntmps151 results151 ?_;refine go []<|oP (aj call201 rfl (Y2 _))<|oP (aj call192 rfl (amR _))<|br (fun h1=>?_) (fun h1=>?_)
 ·exact p9 rfl rfl (Sub.str (by grind[digits,GG])) (Sub.bool (by grind[digits,GG]))
 ·exact oP (aj call202 rfl (amS _))<|p9 rfl rfl (Sub.str (by grind[digits,GG])) (Sub.bool (by grind[digits,GG]))
theorem Xx(s:ae):Fc Tryz.prog 106 [.str s] (.str (canon s)):=by
 refine bE func106 ntmps106 results106 ?_;refine U.qh 0 rfl (fun hb=>?_);simp only[aH]at hb;have qz:=m_ s;refine U.seq<|rg<|.ag rfl rfl<|.nil<|U.seq<|rg<|.mv rfl rfl<|.P rfl (aj call151 rfl (N8 _))<|.mv rfl rfl<|.P rfl (iJ rfl rfl)<|.P rfl (iJ rfl rfl)<|.ag rfl rfl<|.ag rfl rfl<|.nil<|U.seq<|U.seq<|rg<|.mv rfl rfl<|.nil<|U.cond rfl (fun h1=>?_) (fun h1=>?_)
 ·refine rg<|.mv rfl rfl<|.P rfl (yg rfl rfl (by have:=N7 s zA;simp[aH];omega) rfl)<|.ag rfl rfl<|.nil<|U.seq<|rg<|.mv rfl rfl<|.ag rfl rfl<|.nil<|U.ret (?_);exact bS rfl (Sub.str (by grind[canon]))
 ·refine U.skip<|U.seq<|rg<|.mv rfl rfl<|.ag rfl rfl<|.nil<|U.ret (?_);exact bS rfl (Sub.str (by grind[canon]))
theorem adT(s:ae):Fc Tryz.prog 73 [.str s] (.i (rj s)):=by
 refine bE func73 ntmps73 results73 ?_;refine U.seq<|rg<|.ag rfl rfl<|.nil<|U.seq<|U.seq<|rg<|.mv rfl rfl<|.mv rfl rfl<|.P rfl (aj call106 rfl (Xx _))<|.P rfl (Uk rfl rfl)<|.nil<|U.cond rfl (fun h1=>?_) (fun h1=>?_)
 ·refine U.seq<|rg<|.ag rfl rfl<|.nil<|U.ret (?_);exact bS rfl (Sub.int (by grind[rj]))
 ·refine U.skip<|U.seq<|rg<|.ag rfl rfl<|.nil<|U.ret (?_);exact bS rfl (Sub.int (by grind[rj]))
structure aiV(s:ae)where
 rest:ae
 tl:ae
 e:Int
 done:List Nat
 hr:(digits s).1=rest++tl
 he:(0<e→e=rest.length)∧(e≤0→rest=[])
 hx:done++gu rest=gu (digits s).1
theorem uK(s:ae)(hs:s.length≤100000):Fc Tryz.prog 109 [.str s] (.agg (pN (digits s).2 (gu (digits s).1))):=by
 refine Fc.j2 func109 rfl ntmps109 rfl rfl rfl ?_;have qz:=m_ s;have ET:=pM s;have dH:=ru (digits s).1;refine go [99999]<|oP (aj call151 rfl (N8 _))<|U.loop (ι:=aiV s) (fun sx=>[(2,.box 0 0),(3,.str (digits s).1),(4,.b (digits s).2),(5,.gs 1 sx.done.length),(6,.i sx.e)]) (fun sx=>[(0,.cells [.b false,.raw (.slice none 0 0)]),(1,.arr 1 (bD sx.done))]) (fun sx=>sx.rest.length) ⟨(digits s).1,[],(digits s).1.length,[],by simp,⟨fun _=>rfl,fun h=>List.length_eq_zero_iff.1 zO⟩,rfl⟩ ?_ ?_
 ·exact(Le.ij 1 1).trans<|Le.mk rfl (.n 3 rfl rfl (.cons rfl (Sub.qv _) rfl (.s rfl rfl .nil))) (.cons rfl rfl (.arr rfl zS .nil))
 ·rintro⟨rest,tl,e,done,hr,he,hx⟩;dsimp only;have gO:=congrArg List.length hr;simp only[List.length_append]at gO;have xJ:=congrArg List.length hx;simp only[List.length_append]at xJ;refine go [99999]<|br (fun h1=>?_) (fun h1=>?_)
  ·have a_:=h1;try simp only[bs]at a_
   exact sd (aB zO)<|oP (wj underlying9 rfl (l:=rest.length-9) (h:=rest.length) (r:=rest.drop (rest.length-9)) (.inr ⟨_,_,rfl,x7 rfl zO⟩) (.inr ⟨_,_,rfl,x7 rfl zO⟩) zO (by rw[hr];simp) (by rw[hr];simp[List.drop_append,List.take_append]<;>omega))<|oP (aj call157 rfl (ahp _ (by intro e;have:=congrArg List.length e;simp at this;omega) (by rw[hr,List.all_append,Bool.and_eq_true]at ET;have:=ET.1;rw[←List.take_append_drop (rest.length-9) rest,List.all_append,Bool.and_eq_true]at this;exact this.2) zQ))<|oP (cm (n:=1) (rows:=bD [natVal (rest.drop (rest.length-9))]) underlying188 sizeOf243 rfl rfl rfl zeroValue243 rfl rfl rfl rfl rfl rfl rfl)<|oW (dJ 2 underlying188 underlying188 sizeOf243 typeInfo243 zeroValue243 rfl (bt:=8) rfl rfl rfl rfl zS rfl rfl zQ)<|sd (aB zO)<|nx ⟨rest.take (rest.length-9),rest.drop (rest.length-9)++tl,e-9,done++[natVal (rest.drop (rest.length-9))],by rw[hr,←List.append_assoc,List.take_append_drop],⟨fun h=>by simp;omega,fun h=>List.length_eq_zero_iff.1 zQ⟩,by rw[←hx,zj (s:=rest) zO];simp⟩ zQ ((Le.mk (ai:=[(0,_),(2,_)]) rfl (show du _ _ [(2,_),(3,_),(4,_),(5,_),(6,_)]from(.n 5 rfl rfl .nil)) (.cons (i:=0) rfl rfl (.cons (i:=2) rfl rfl .nil))).trans<|(Le.j4 5 2 1 rfl rfl zS rfl).trans<|Le.mk rfl (.n 3 rfl rfl (.cons rfl (Sub.gs zS) rfl (.s rfl rfl .nil))) (.cons rfl rfl (.arr rfl zS .nil)))
  ·have a_:=h1;try simp only[bs]at a_
   refine go [99999] ?_;refine U.bC (Le.Is 0 1 1 rfl rfl rfl zS) ?_;refine U.ret (?_);exact Rd.cA results109 isAgg190 sizeOf190 rfl rfl rfl (Sub.agg (.r (.cons (Sub.snap (by rw[←hx,he.2 zO,tX,List.append_nil])) .nil)))
structure VA(neg:Bool)(m:List Nat)where
 lo:List Nat
 hi:List Nat
 st:ae
 hx:bp m=lo++hi
 ht:st++oE lo=uY neg m
 aG:st≠[]
 bd:st.length≤21+9*hi.length
theorem AS(neg:Bool)(m:List Nat)(hm:aU m)(hs:m.length≤20000):Fc Tryz.prog 110 [.agg (pN neg m)] (.str (uY neg m)):=by
 refine bE func110 ntmps110 results110 ?_;have eU:=vg m;have vz:=yR hm;have hd0:(bp m).length≠0→(Lib.decDigits (dA (bp m))).length≤9:=fun h=>yT (vz _ (xO h));refine U.seq<|rg<|.W rfl (oG 0 rfl rfl)<|.ag rfl rfl<|.nil<|U.seq<|rg<|.P rfl (bJ (n:=0) 188 1 underlying190 sizeOf188 rfl rfl)<|.R rfl (bP isAgg188 rfl rfl rfl)<|.P rfl (aj call158 rfl (si _))<|.ag rfl rfl<|.nil<|U.seq<|U.seq<|rg<|.mv rfl rfl<|.P rfl (cC underlying188 rfl)<|.P rfl (l5 rfl rfl)<|.nil<|U.cond rfl (fun h1=>?_) (fun h1=>?_)
 ·refine U.seq<|rg<|.ag rfl rfl<|.nil<|U.ret (?_);exact bS rfl (Sub.str (by grind[uY]))
 ·have a_:=h1;try simp only[bs]at a_
  refine U.skip<|U.seq<|rg<|.W rfl (ah_ 7000 7001 zeroValue251 rfl)<|.nil<|U.seq<|U.seq<|rg<|.P rfl (bJ (n:=0) 4 0 underlying190 sizeOf4 rfl rfl)<|.R rfl (bP isAgg4 rfl rfl rfl)<|.nil<|U.cond rfl (fun h2=>?_) (fun h2=>?_)
  ·refine rg<|.W rfl (eu call159 rfl (Xd _ 45 zS) (.cons rfl rfl (.cons rfl rfl .nil)) rfl rfl)<|.nil ?_;refine U.bC (Le.mk (ai:=[(0,_),(7000,_),(7002,_)]) rfl (show du _ _ [(0,_),(1,_),(2,_),(7,_),(8,_),(9,_),(3,_),(10,_),(11,_),(12,_),(4,_),(13,_),(14,_)]from(.n 13 rfl rfl .nil)) (.cons (i:=0) rfl rfl (.cons (i:=7000) rfl rfl (.cons (i:=7002) rfl rfl .nil)))) ?_;refine U.seq<|rg<|.mv rfl rfl<|.mv rfl rfl<|.P rfl (cC underlying188 rfl)<|.P rfl (fp rfl rfl (aW zO zQ))<|.P rfl (iR underlying188 sizeOf243 rfl rfl zQ (vL (pre:=bp m) (rest:=[]) zS zO zS))<|.P rfl (cG isAgg243 rfl)<|.P rfl (aj call161 rfl (Et _ (by have:=vz _ (xO (l:=bp m) zO);unfold gB at this;omega)))<|.W rfl (eu call160 rfl (Xe _ _ zQ) (.cons rfl rfl (.cons rfl rfl .nil)) rfl rfl)<|.nil ?_;refine U.bC (Le.mk (ai:=[(0,_),(7000,_),(7001,_)]) rfl (show du _ _ [(0,_),(1,_),(2,_),(7,_),(8,_),(9,_),(3,_),(10,_),(11,_),(12,_),(4,_),(13,_),(14,_),(16,_),(17,_),(18,_),(19,_),(20,_),(21,_),(22,_)]from(.n 20 rfl rfl .nil)) (.cons (i:=0) rfl rfl (.cons (i:=7000) rfl rfl (.cons (i:=7001) rfl rfl .nil)))) ?_;refine U.seq<|U.seq<|rg<|.mv rfl rfl<|.P rfl (cC underlying188 rfl)<|.P rfl (fp rfl rfl (aW zO zQ))<|.ag rfl rfl<|.nil<|U.block<|U.loop (ι:=VA neg m) (fun sx=>[(1,.box 0 0),(3,bc (bp m)),(4,.box 7000 0),(5,.i ((sx.lo.length:Int)-1))]) (fun sx=>[(0,.cells (pN neg m)),(7000,.fu 7001 sx.st.length),(7001,.ba sx.st)]) (fun sx=>sx.lo.length) ⟨(bp m).dropLast,[dA (bp m)],([]++[45])++Lib.decDigits (dA (bp m)),tL zO,by unfold uY;rw[if_neg zO];simp at*;simp[*],by simp[HK],by have:=yT (vz _ (xO (l:=bp m) zO));simp;omega⟩ ?_ ?_
   ·exact Le.mk rfl (.n 3 rfl rfl (.cons rfl (Sub.int zQ) rfl .nil)) (.cons rfl rfl (.cons rfl rfl (.cons rfl rfl .nil)))
   ·rintro⟨lo,hi,st,hx,ht,aG,bd⟩;dsimp only;have xJ:=congrArg List.length hx;simp only[List.length_append]at xJ;have hy:lo.length≠0→dA lo<gB:=fun h=>vz _ (by rw[hx];exact List.mem_append_left _ (xO h));have hd9:lo.length≠0→(Lib.decDigits (dA lo)).length≤9:=fun h=>yT (hy h);refine U.seq<|U.seq<|rg<|.mv rfl rfl<|.P rfl (tm rfl rfl)<|.nil<|U.cond rfl (fun h3=>?_) (fun h3=>?_)
    ·have gU:=h3;try simp only[bs]at gU
     refine U.skip<|U.seq<|U.block<|U.seq<|rg<|.mv rfl rfl<|.mv rfl rfl<|.P rfl (iR underlying188 sizeOf243 rfl rfl zO (vL hx zO rfl))<|.P rfl (cG isAgg243 rfl)<|.P rfl (aj call161 rfl (Et _ (by unfold gB at hy;omega)))<|.ag rfl rfl<|.nil<|rg<|.mv rfl rfl<|.P rfl (ko underlying9 rfl)<|.P rfl (fp rfl rfl (aB zO))<|.P rfl (aj call162 rfl (Ux _ zO zO))<|.mv rfl rfl<|.P rfl (yg rfl rfl (by unfold aH;simp;omega) rfl)<|.W rfl (eu call160 rfl (Hm _ _ zQ) (.cons rfl rfl (.cons rfl rfl .nil)) rfl rfl)<|.nil<|U.nil (dv ?_);refine U.bC (Le.mk (ai:=[(0,_),(7000,_),(7002,_)]) rfl (show du _ _ [(1,_),(3,_),(4,_),(5,_),(27,_),(28,_),(31,_),(32,_),(33,_),(34,_),(35,_),(6,_),(36,_),(37,_),(38,_),(39,_),(40,_),(41,_)]from(.n 18 rfl rfl .nil)) (.cons (i:=0) rfl rfl (.cons (i:=7000) rfl rfl (.cons (i:=7002) rfl rfl .nil)))) ?_;refine rg<|.mv rfl rfl<|.P rfl (fp rfl rfl (aB zO))<|.ag rfl rfl<|.nil<|U.nil (dx ?_);exact⟨⟨lo.dropLast,dA lo::hi,st++(List.replicate (9-(Lib.decDigits (dA lo)).length) 48++Lib.decDigits (dA lo)),by rw[hx];conv=>{lhs;rw[tL (l:=lo) zO]};simp,by rw[←ht,TQ (lo:=lo) zO];simp[tg],by simp[aG],by simp;omega⟩,by simp;omega,(Le.mk (ai:=[(0,_),(7000,_),(7002,_)]) rfl (show du _ _ [(1,_),(3,_),(4,_),(5,_)]from(.n 4 rfl rfl .nil)) (.cons (i:=0) rfl rfl (.cons (i:=7000) rfl rfl (.cons (i:=7002) rfl rfl .nil)))).trans<|(Le.LA 7000 7002 7001 rfl rfl zS rfl).trans<|Le.mk rfl (.n 3 rfl rfl (.cons rfl (Sub.int zQ) rfl .nil)) (.cons rfl rfl (.eq rfl zS rfl (.eq rfl zS rfl .nil)))⟩
    ·have gU:=h3;try simp only[bs]at gU
     refine U.exit (fc (eY ?_));refine U.seq<|rg<|.W rfl (eu call163 rfl (M' 7000 7001 _ _ aG rfl (by unfold aH;omega) rfl) (.cons rfl rfl (.cons rfl rfl .nil)) rfl rfl)<|.ag rfl rfl<|.nil<|U.ret (?_);exact bS rfl (Sub.str (by have e:lo=[]:=List.length_eq_zero_iff.mp zO;rw[e]at ht;rw[←ht];simp[TP]))
  ·refine U.skip<|U.seq<|rg<|.mv rfl rfl<|.mv rfl rfl<|.P rfl (cC underlying188 rfl)<|.P rfl (fp rfl rfl (aW zO zQ))<|.P rfl (iR underlying188 sizeOf243 rfl rfl zQ (vL (pre:=bp m) (rest:=[]) zS zO zS))<|.P rfl (cG isAgg243 rfl)<|.P rfl (aj call161 rfl (Et _ (by have:=vz _ (xO (l:=bp m) zO);unfold gB at this;omega)))<|.W rfl (eu call160 rfl (Hm _ _ zQ) (.cons rfl rfl (.cons rfl rfl .nil)) rfl rfl)<|.nil ?_;refine U.bC (Le.mk (ai:=[(0,_),(7000,_),(7002,_)]) rfl (show du _ _ [(0,_),(1,_),(2,_),(7,_),(8,_),(9,_),(3,_),(10,_),(11,_),(12,_),(4,_),(13,_),(14,_),(16,_),(17,_),(18,_),(19,_),(20,_),(21,_),(22,_)]from(.n 20 rfl rfl .nil)) (.cons (i:=0) rfl rfl (.cons (i:=7000) rfl rfl (.cons (i:=7002) rfl rfl .nil)))) ?_;refine U.seq<|U.seq<|rg<|.mv rfl rfl<|.P rfl (cC underlying188 rfl)<|.P rfl (fp rfl rfl (aW zO zQ))<|.ag rfl rfl<|.nil<|U.block<|U.loop (ι:=VA neg m) (fun sx=>[(1,.box 0 0),(3,bc (bp m)),(4,.box 7000 0),(5,.i ((sx.lo.length:Int)-1))]) (fun sx=>[(0,.cells (pN neg m)),(7000,.fu 7001 sx.st.length),(7001,.ba sx.st)]) (fun sx=>sx.lo.length) ⟨(bp m).dropLast,[dA (bp m)],[]++Lib.decDigits (dA (bp m)),tL zO,by unfold uY;rw[if_neg zO];simp at*;simp[*],by simp[HK],by have:=yT (vz _ (xO (l:=bp m) zO));simp;omega⟩ ?_ ?_
   ·exact(Le.mk (ai:=[(0,_),(7000,_),(7002,_)]) rfl (show du _ _ [(1,_),(3,_),(4,_),(5,_)]from(.n 4 rfl rfl .nil)) (.cons (i:=0) rfl rfl (.cons (i:=7000) rfl rfl (.cons (i:=7002) rfl rfl .nil)))).trans<|(Le.LA 7000 7002 7001 rfl rfl zS rfl).trans<|Le.mk rfl (.n 3 rfl rfl (.cons rfl (Sub.int zQ) rfl .nil)) (.cons rfl rfl (.cons rfl rfl (.cons rfl rfl .nil)))
   ·rintro⟨lo,hi,st,hx,ht,aG,bd⟩;dsimp only;have xJ:=congrArg List.length hx;simp only[List.length_append]at xJ;have hy:lo.length≠0→dA lo<gB:=fun h=>vz _ (by rw[hx];exact List.mem_append_left _ (xO h));have hd9:lo.length≠0→(Lib.decDigits (dA lo)).length≤9:=fun h=>yT (hy h);refine U.seq<|U.seq<|rg<|.mv rfl rfl<|.P rfl (tm rfl rfl)<|.nil<|U.cond rfl (fun h4=>?_) (fun h4=>?_)
    ·have il:=h4;try simp only[bs]at il
     refine U.skip<|U.seq<|U.block<|U.seq<|rg<|.mv rfl rfl<|.mv rfl rfl<|.P rfl (iR underlying188 sizeOf243 rfl rfl zO (vL hx zO rfl))<|.P rfl (cG isAgg243 rfl)<|.P rfl (aj call161 rfl (Et _ (by unfold gB at hy;omega)))<|.ag rfl rfl<|.nil<|rg<|.mv rfl rfl<|.P rfl (ko underlying9 rfl)<|.P rfl (fp rfl rfl (aB zO))<|.P rfl (aj call162 rfl (Ux _ zO zO))<|.mv rfl rfl<|.P rfl (yg rfl rfl (by unfold aH;simp;omega) rfl)<|.W rfl (eu call160 rfl (Hm _ _ zQ) (.cons rfl rfl (.cons rfl rfl .nil)) rfl rfl)<|.nil<|U.nil (dv ?_);refine U.bC (Le.mk (ai:=[(0,_),(7000,_),(7002,_)]) rfl (show du _ _ [(1,_),(3,_),(4,_),(5,_),(27,_),(28,_),(31,_),(32,_),(33,_),(34,_),(35,_),(6,_),(36,_),(37,_),(38,_),(39,_),(40,_),(41,_)]from(.n 18 rfl rfl .nil)) (.cons (i:=0) rfl rfl (.cons (i:=7000) rfl rfl (.cons (i:=7002) rfl rfl .nil)))) ?_;refine rg<|.mv rfl rfl<|.P rfl (fp rfl rfl (aB zO))<|.ag rfl rfl<|.nil<|U.nil (dx ?_);exact⟨⟨lo.dropLast,dA lo::hi,st++(List.replicate (9-(Lib.decDigits (dA lo)).length) 48++Lib.decDigits (dA lo)),by rw[hx];conv=>{lhs;rw[tL (l:=lo) zO]};simp,by rw[←ht,TQ (lo:=lo) zO];simp[tg],by simp[aG],by simp;omega⟩,by simp;omega,(Le.mk (ai:=[(0,_),(7000,_),(7002,_)]) rfl (show du _ _ [(1,_),(3,_),(4,_),(5,_)]from(.n 4 rfl rfl .nil)) (.cons (i:=0) rfl rfl (.cons (i:=7000) rfl rfl (.cons (i:=7002) rfl rfl .nil)))).trans<|(Le.LA 7000 7002 7001 rfl rfl zS rfl).trans<|Le.mk rfl (.n 3 rfl rfl (.cons rfl (Sub.int zQ) rfl .nil)) (.cons rfl rfl (.eq rfl zS rfl (.eq rfl zS rfl .nil)))⟩
    ·have il:=h4;try simp only[bs]at il
     refine U.exit (fc (eY ?_));refine U.seq<|rg<|.W rfl (eu call163 rfl (M' 7000 7001 _ _ aG rfl (by unfold aH;omega) rfl) (.cons rfl rfl (.cons rfl rfl .nil)) rfl rfl)<|.ag rfl rfl<|.nil<|U.ret (?_);exact bS rfl (Sub.str (by have e:lo=[]:=List.length_eq_zero_iff.mp zO;rw[e]at ht;rw[←ht];simp[TP]))
theorem ags(s:ae)(hs:s.length≤9000):Fc Tryz.prog 319 [.str s] (.str (uY (!(digits s).2) (gu (digits s).1))):=by
 refine bE func319 ntmps319 results319 ?_;have qz:=m_ s;have dH:=ru (digits s).1;have hgo:=(IF _ (pM s)).1;exact go []<|oP (aj call109 rfl (uK _ zO))<|oP (aj call110 rfl (AS _ _ zA zO))<|an rfl (Sub.refl _)
structure YG(x y:List Nat)where
 lx:List Nat
 rx:List Nat
 ly:List Nat
 ry:List Nat
 ex:x=lx++rx
 ey:y=ly++ry
 el:lx.length=ly.length
 er:jz lx.reverse ly.reverse=js x y
theorem yP(x y:List Nat)(hx:x.length≤20000)(hy:y.length≤20000):Fc Tryz.prog 155 [bc x,bc y] (.i (js x y)):=by
 refine bE func155 ntmps155 results155 ?_;refine go []<|br (fun h1=>?_) (fun h1=>?_)
 ·exact sd (aW zQ zQ)<|an rfl (Sub.int (by unfold js;rw[if_pos (by simp at*;omega)];simp))
 ·refine sd (aW zO zQ)<|U.loop (ι:=YG x y) (fun sx=>[(0,bc x),(1,bc y),(5,.i ((sx.lx.length:Int)-1))]) (fun sx=>[]) (fun sx=>sx.lx.length) ⟨x,[],y,[],by simp,by simp,by simp at*;omega,(Yr (by simp at*;omega)).symm⟩ ?_ ?_
  ·exact Le.mk rfl (.n 2 rfl rfl (.cons rfl (Sub.int zS) rfl .nil)) .nil
  ·rintro⟨lx,rx,ly,ry,ex,ey,el,er⟩;dsimp only;have H7:=congrArg List.length ex;have H8:=congrArg List.length ey;simp only[List.length_append]at H7 H8;have es:=fun h=>DZ (x:=lx) (y:=ly) h el;refine go []<|br (fun h2=>?_) (fun h2=>?_)
   ·have dO:=h2;try simp only[bs]at dO
    refine ix zO (vL ex zO rfl)<|ix zO (vL ey zO zO)<|ord<|br (fun h3=>?_) (fun h3=>?_)
    ·have gU:=h3;try simp only[bs]at gU
     exact an rfl (Sub.int (by(rw[←er,es zO];rw[if_pos zO])))
    ·have gU:=h3;try simp only[bs]at gU
     refine ix zO (vL ex zO rfl)<|ix zO (vL ey zO zO)<|ord<|br (fun h4=>?_) (fun h4=>?_)
     ·have il:=h4;try simp only[bs]at il
      exact an rfl (Sub.int (by(rw[←er,es zO];rw[if_neg zO,if_pos zO])))
     ·have il:=h4;try simp only[bs]at il
      exact sd (aB zO)<|nx ⟨lx.dropLast,dA lx::rx,ly.dropLast,dA ly::ry,by rw[ex];conv=>{lhs;rw[tL (l:=lx) zO]};simp,by rw[ey];conv=>{lhs;rw[tL (l:=ly) zO]};simp,by simp;omega,by rw[←er,DZ zO el,if_neg zO,if_neg zO]⟩ zQ (Le.mk rfl (.n 2 rfl rfl (.cons rfl (Sub.int zQ) rfl .nil)) .nil)
   ·have dO:=h2;try simp only[bs]at dO
    exact go []<|an rfl (Sub.int (by rw[←er,HC zO]))
theorem X'(m:List Nat)(hm:m.length≠0)(hs:m.length≤20000):bh Tryz.prog 204 [bc m] [] (.gs 7100 m.length) [(7100,.arr 1 (bD m))]:=by
 refine xj func204 ntmps204 results204 ?_;refine U.seq<|rg<|.ag rfl rfl<|.nil<|U.seq<|U.seq<|rg<|.mv rfl rfl<|.P rfl (ail underlying188 rfl rfl (by intro e;apply hm;simpa using congrArg List.length e))<|.nil<|U.fG rfl rfl<|U.skip<|U.seq<|rg<|.P rfl (rR underlying188 sizeOf243)<|.mv rfl rfl<|.W rfl (aq.ij 7099 1 (t:=5) rfl (Sub.sw _ _) (dJ 7100 underlying188 underlying188 sizeOf243 typeInfo243 zeroValue243 rfl (bt:=8) rfl rfl rfl rfl rfl rfl rfl zQ))<|.ag rfl rfl<|.nil<|U.ret (?_);exact wq rfl (by exact Sub.gs zS) (.eq rfl zS rfl .nil)
structure af_(x y:List Nat)where
 out:List Nat
 rest:List Nat
 c:Nat
 hl:x.length=out.length+rest.length
 hc:c≤1
 ho:aU rest
 hr:out++gK rest (y.drop out.length) c=gK x y 0
theorem Fv(x y:List Nat)(hx:x.length≠0)(vJ:x.length≤20000)(zM:y.length≤20000)(nE:aU x)(vK:aU y):Fc Tryz.prog 156 [bc x,bc y] (bc (bp (gK x y 0))):=by
 refine bE func156 ntmps156 results156 ?_;refine U.seq<|rg<|.ag rfl rfl<|.nil<|U.seq<|rg<|.mv rfl rfl<|.W rfl (eu call204 rfl (X' _ zO zO) .nil rfl rfl)<|.ag rfl rfl<|.nil<|U.seq<|rg<|.ag rfl rfl<|.nil<|U.seq<|U.seq<|rg<|.mv rfl rfl<|.P rfl (uJ underlying188 rfl)<|.mv rfl rfl<|.nil<|U.block<|U.loop (ι:=af_ x y) (fun sx=>[(1,bc y),(5,.gs 7100 x.length),(6,.raw (.int .u64 (sx.c:Int))),(12,.i x.length),(13,.i sx.out.length)]) (fun sx=>[(7100,.arr 1 (bD (sx.out++sx.rest)))]) (fun sx=>sx.rest.length) ⟨[],x,0,by simp,by omega,nE,by simp⟩ ?_ ?_
 ·exact Le.mk rfl (.s rfl rfl (.cons rfl (Sub.gs zS) rfl (.n 3 rfl rfl .nil))) (.arr rfl (by rfl) .nil)
 ·rintro⟨out,rest,c,hl,hc,ho,hr⟩;dsimp only;rcases rest with _|⟨a,rest⟩
  ·skip;refine U.seq<|rg<|.P rfl (bY rfl rfl)<|.nil<|U.seq<|U.fG rfl (by simp at hl⊢;omega)<|U.exit (fc (eY ?_));refine U.bC (Le.freeze 5 7100 rfl rfl (by simp at hl⊢;omega)) ?_;refine U.seq<|rg<|.mv rfl rfl<|.P rfl (aj call158 rfl (si _))<|.ag rfl rfl<|.nil<|U.ret (?_);exact bS rfl (Sub.snap (by simp[gK]at hr;simp[hr]))
  ·simp only[List.length_cons]at hl;have ha:=ho a zS;have hb:=KI (k:=out.length) vK;refine U.seq<|rg<|.P rfl (bY rfl rfl)<|.nil<|U.seq<|U.iY rfl zQ<|U.skip<|U.seq<|U.block<|U.seq<|rg<|.mv rfl rfl<|.ag rfl rfl<|.nil<|U.seq<|rg<|.mv rfl rfl<|.ag rfl rfl<|.nil<|U.seq<|U.seq<|rg<|.mv rfl rfl<|.mv rfl rfl<|.P rfl (cC underlying188 rfl)<|.P rfl (bY rfl rfl)<|.nil<|U.cond rfl (fun h1=>?_) (fun h1=>?_)
   ·refine rg<|.mv rfl rfl<|.mv rfl rfl<|.mv rfl rfl<|.P rfl (iR underlying188 sizeOf243 rfl rfl zO (ui (Cz (by simp at*;omega)) rfl))<|.P rfl (cG isAgg243 rfl)<|.P rfl (cn rfl rfl (addN (by unfold gB at*;omega)))<|.ag rfl rfl<|.nil<|U.seq<|rg<|.ag rfl rfl<|.nil<|U.seq<|U.seq<|rg<|.mv rfl rfl<|.mv rfl rfl<|.P rfl (b8 (off:=(out.length)*1) underlying188 sizeOf243 rfl rfl zO zQ zO)<|.R rfl (fN (r:=_) (out.length) 0 isAgg243 rfl rfl rfl (fY _ _ _) rfl)<|.mv rfl rfl<|.P rfl (bY rfl rfl)<|.nil<|U.cond rfl (fun h2=>?_) (fun h2=>?_)
    ·have dO:=h2;try simp only[bs]at dO
     refine U.seq<|rg<|.mv rfl rfl<|.mv rfl rfl<|.P rfl (b8 (off:=(out.length)*1) underlying188 sizeOf243 rfl rfl zO zQ zO)<|.R rfl (fN (r:=_) (out.length) 0 isAgg243 rfl rfl rfl (fY _ _ _) rfl)<|.P rfl (cn rfl rfl (addN (b:=gB) (by unfold gB at*;omega)))<|.P rfl (b8 (off:=(out.length)*1) underlying188 sizeOf243 rfl rfl zO zQ zO)<|.W rfl (jd (r:=_) (out.length) 0 sizeOf243 rfl rfl rfl rfl rfl rfl (fY _ _ _) zS)<|.nil<|rg<|.ag rfl rfl<|.nil<|rg<|.mv rfl rfl<|.mv rfl rfl<|.P rfl (b8 (off:=(out.length)*1) underlying188 sizeOf243 rfl rfl zO zQ zO)<|.R rfl (fN (r:=_) (out.length) 0 isAgg243 rfl rfl rfl (im (fY _ _ _)) rfl)<|.mv rfl rfl<|.P rfl (fp rfl rfl (rY zO (by unfold gB at*;omega)))<|.P rfl (b8 (off:=(out.length)*1) underlying188 sizeOf243 rfl rfl zO zQ zO)<|.W rfl (jd (r:=_) (out.length) 0 sizeOf243 rfl rfl rfl rfl rfl rfl (im (fY _ _ _)) zS)<|.nil<|U.nil (dv ?_);refine rg<|.P rfl (cn rfl rfl (aB zO))<|.mv rfl rfl<|.nil<|U.nil (dx ?_);exact⟨⟨out++[a+gB-(c+lY y out.length)],rest,1,by simp;omega,by omega,fun u hu=>ho u (by simp[hu]),by rw[←hr,L0 (by simp at*;omega),if_pos zO,if_pos zO];simp⟩,by simp,Le.mk rfl (.s rfl rfl (.cons rfl (Sub.gs zS) rfl (.n 2 rfl rfl (.cons rfl (Sub.int zS) rfl .nil)))) (.arr rfl (by skip;simp only[List.set_set,List.set_cons_zero];exact(tO _ _ _ _).trans zS) .nil)⟩
    ·have dO:=h2;try simp only[bs]at dO
     refine U.skip<|rg<|.mv rfl rfl<|.mv rfl rfl<|.P rfl (b8 (off:=(out.length)*1) underlying188 sizeOf243 rfl rfl zO zQ zO)<|.R rfl (fN (r:=_) (out.length) 0 isAgg243 rfl rfl rfl (fY _ _ _) rfl)<|.mv rfl rfl<|.P rfl (fp rfl rfl (rY zO (by unfold gB at*;omega)))<|.P rfl (b8 (off:=(out.length)*1) underlying188 sizeOf243 rfl rfl zO zQ zO)<|.W rfl (jd (r:=_) (out.length) 0 sizeOf243 rfl rfl rfl rfl rfl rfl (fY _ _ _) zS)<|.nil<|U.nil (dv ?_);refine rg<|.P rfl (cn rfl rfl (aB zO))<|.mv rfl rfl<|.nil<|U.nil (dx ?_);exact⟨⟨out++[a-(c+lY y out.length)],rest,0,by simp;omega,by omega,fun u hu=>ho u (by simp[hu]),by rw[←hr,L0 (by simp at*;omega),if_neg zO,if_neg zO];simp⟩,by simp,Le.mk rfl (.s rfl rfl (.cons rfl (Sub.gs zS) rfl (.n 2 rfl rfl (.cons rfl (Sub.int zS) rfl .nil)))) (.arr rfl (by skip;simp only[List.set_set,List.set_cons_zero];exact(tO _ _ _ _).trans zS) .nil)⟩
   ·refine U.skip<|U.seq<|rg<|.ag rfl rfl<|.nil<|U.seq<|U.seq<|rg<|.mv rfl rfl<|.mv rfl rfl<|.P rfl (b8 (off:=(out.length)*1) underlying188 sizeOf243 rfl rfl zO zQ zO)<|.R rfl (fN (r:=_) (out.length) 0 isAgg243 rfl rfl rfl (fY _ _ _) rfl)<|.mv rfl rfl<|.P rfl (bY rfl rfl)<|.nil<|U.cond rfl (fun h3=>?_) (fun h3=>?_)
    ·have gU:=h3;try simp only[bs]at gU
     refine U.seq<|rg<|.mv rfl rfl<|.mv rfl rfl<|.P rfl (b8 (off:=(out.length)*1) underlying188 sizeOf243 rfl rfl zO zQ zO)<|.R rfl (fN (r:=_) (out.length) 0 isAgg243 rfl rfl rfl (fY _ _ _) rfl)<|.P rfl (cn rfl rfl (addN (b:=gB) (by unfold gB at*;omega)))<|.P rfl (b8 (off:=(out.length)*1) underlying188 sizeOf243 rfl rfl zO zQ zO)<|.W rfl (jd (r:=_) (out.length) 0 sizeOf243 rfl rfl rfl rfl rfl rfl (fY _ _ _) zS)<|.nil<|rg<|.ag rfl rfl<|.nil<|rg<|.mv rfl rfl<|.mv rfl rfl<|.P rfl (b8 (off:=(out.length)*1) underlying188 sizeOf243 rfl rfl zO zQ zO)<|.R rfl (fN (r:=_) (out.length) 0 isAgg243 rfl rfl rfl (im (fY _ _ _)) rfl)<|.mv rfl rfl<|.P rfl (fp rfl rfl (rY zO (by unfold gB at*;omega)))<|.P rfl (b8 (off:=(out.length)*1) underlying188 sizeOf243 rfl rfl zO zQ zO)<|.W rfl (jd (r:=_) (out.length) 0 sizeOf243 rfl rfl rfl rfl rfl rfl (im (fY _ _ _)) zS)<|.nil<|U.nil (dv ?_);refine rg<|.P rfl (cn rfl rfl (aB zO))<|.mv rfl rfl<|.nil<|U.nil (dx ?_);exact⟨⟨out++[a+gB-c],rest,1,by simp;omega,by omega,fun u hu=>ho u (by simp[hu]),by rw[←hr,LZ (by simp at*;omega),if_pos zO,if_pos zO];simp⟩,by simp,Le.mk rfl (.s rfl rfl (.cons rfl (Sub.gs zS) rfl (.n 2 rfl rfl (.cons rfl (Sub.int zS) rfl .nil)))) (.arr rfl (by skip;simp only[List.set_set,List.set_cons_zero];exact(tO _ _ _ _).trans zS) .nil)⟩
    ·have gU:=h3;try simp only[bs]at gU
     refine U.skip<|rg<|.mv rfl rfl<|.mv rfl rfl<|.P rfl (b8 (off:=(out.length)*1) underlying188 sizeOf243 rfl rfl zO zQ zO)<|.R rfl (fN (r:=_) (out.length) 0 isAgg243 rfl rfl rfl (fY _ _ _) rfl)<|.mv rfl rfl<|.P rfl (fp rfl rfl (rY zO (by unfold gB at*;omega)))<|.P rfl (b8 (off:=(out.length)*1) underlying188 sizeOf243 rfl rfl zO zQ zO)<|.W rfl (jd (r:=_) (out.length) 0 sizeOf243 rfl rfl rfl rfl rfl rfl (fY _ _ _) zS)<|.nil<|U.nil (dv ?_);refine rg<|.P rfl (cn rfl rfl (aB zO))<|.mv rfl rfl<|.nil<|U.nil (dx ?_);exact⟨⟨out++[a-c],rest,0,by simp;omega,by omega,fun u hu=>ho u (by simp[hu]),by rw[←hr,LZ (by simp at*;omega),if_neg zO,if_neg zO];simp⟩,by simp,Le.mk rfl (.s rfl rfl (.cons rfl (Sub.gs zS) rfl (.n 2 rfl rfl (.cons rfl (Sub.int zS) rfl .nil)))) (.arr rfl (by skip;simp only[List.set_set,List.set_cons_zero];exact(tO _ _ _ _).trans zS) .nil)⟩
structure T1(p q:List Nat)where
 out:List Nat
 rest:List Nat
 c:Nat
 hl:p.length=out.length+rest.length
 hc:c≤1
 ho:aU rest
 hr:out++iW rest (q.drop out.length) c=iW p q 0
theorem ahH(x y:List Nat)(aG:x.length≠0∨y.length≠0)(vJ:x.length≤20000)(zM:y.length≤20000)(nE:aU x)(vK:aU y):Fc Tryz.prog 154 [bc x,bc y] (bc (nQ x y)):=by
 refine bE func154 ntmps154 results154 ?_;refine U.seq<|rg<|.ag rfl rfl<|.nil<|U.seq<|U.seq<|rg<|.mv rfl rfl<|.P rfl (cC underlying188 rfl)<|.mv rfl rfl<|.P rfl (cC underlying188 rfl)<|.P rfl (bY rfl rfl)<|.nil<|U.cond rfl (fun h1=>?_) (fun h1=>?_)
 ·have a_:=h1;try simp only[bs]at a_
  refine rg<|.mv rfl rfl<|.mv rfl rfl<|.ag rfl rfl<|.ag rfl rfl<|.nil<|U.seq<|rg<|.mv rfl rfl<|.P rfl (cC underlying188 rfl)<|.mv rfl rfl<|.P rfl (cC underlying188 rfl)<|.P rfl (cn rfl rfl (aW zO zQ))<|.W rfl (AD (bt:=8) 0 _ underlying188 sizeOf243 typeInfo243 zeroValue243 rfl rfl rfl rfl rfl rfl (Int.natCast_succ _).symm zO (by rw[List.length_map];omega) zQ zQ rfl)<|.ag rfl rfl<|.nil<|U.seq<|rg<|.mv rfl rfl<|.mv rfl rfl<|.W rfl (Ub underlying188 sizeOf243 rfl rfl rfl zS zS (by rw[List.length_map];omega))<|.nil<|U.seq<|rg<|.ag rfl rfl<|.nil<|U.seq<|U.seq<|rg<|.mv rfl rfl<|.P rfl (uJ underlying188 rfl)<|.mv rfl rfl<|.nil<|U.block<|U.loop (ι:=T1 y x) (fun sx=>[(1,bc x),(5,.gs 0 y.length),(6,.raw (.int .u64 (sx.c:Int))),(25,.i y.length),(26,.i sx.out.length)]) (fun sx=>[(0,.arr 1 (bD (sx.out++sx.rest)))]) (fun sx=>sx.rest.length) ⟨[],y,0,by simp,by omega,vK,by simp⟩ ?_ ?_
  ·exact Le.mk rfl (.s rfl rfl (.cons rfl (Sub.gs zS) rfl (.s rfl rfl (.cons rfl (Sub.int zS) rfl (.s rfl rfl .nil))))) (.arr rfl (by rfl) .nil)
  ·rintro⟨out,rest,c,hl,hc,ho,hr⟩;try dsimp only
   rcases rest with _|⟨a,rest⟩
   ·skip;refine U.seq<|rg<|.P rfl (bY rfl rfl)<|.nil<|U.seq<|U.fG rfl (by simp at hl⊢;omega)<|U.exit (fc (eY ?_));refine U.seq<|U.seq<|rg<|.mv rfl rfl<|.P rfl (ju rfl rfl)<|.nil<|U.cond rfl (fun h2=>?_) (fun h2=>?_)
    ·have dO:=h2;try simp only[bs]at dO
     refine rg<|.mv rfl rfl<|.mv rfl rfl<|.P rfl (cm (n:=1) (rows:=bD [c]) underlying188 sizeOf243 rfl rfl rfl zeroValue243 rfl rfl rfl rfl rfl rfl rfl)<|.W rfl (dJ 1 underlying188 underlying188 sizeOf243 typeInfo243 zeroValue243 rfl (bt:=8) rfl rfl rfl rfl (by simp at hl⊢;omega) rfl rfl (by simp at*;omega))<|.ag rfl rfl<|.nil<|U.seq<|rg<|.mv rfl rfl<|.ag rfl rfl<|.nil ?_;refine U.bC (Le.freeze 4 1 rfl rfl (by simp at hl⊢;omega)) ?_;refine U.ret (?_);exact bS rfl (Sub.snap (by(rw[T0 (by simp at*;omega)]);rw[←hr];simp only[iW];(rw[if_pos zO]);try simp))
    ·have dO:=h2;try simp only[bs]at dO
     refine U.skip<|U.seq<|rg<|.mv rfl rfl<|.ag rfl rfl<|.nil ?_;refine U.bC (Le.freeze 4 0 rfl rfl (by simp at hl⊢;omega)) ?_;refine U.ret (?_);exact bS rfl (Sub.snap (by(rw[T0 (by simp at*;omega)]);rw[←hr];simp only[iW];(rw[if_neg zO]);try simp))
   ·simp only[List.length_cons]at hl;have ha:=ho a zS;have hb:=KI (k:=out.length) nE;refine U.seq<|rg<|.P rfl (bY rfl rfl)<|.nil<|U.seq<|U.iY rfl zQ<|U.skip<|U.seq<|U.block<|U.seq<|rg<|.mv rfl rfl<|.ag rfl rfl<|.nil<|U.seq<|rg<|.mv rfl rfl<|.mv rfl rfl<|.P rfl (b8 (off:=(out.length)*1) underlying188 sizeOf243 rfl rfl zO zQ zO)<|.R rfl (fN (r:=_) (out.length) 0 isAgg243 rfl rfl rfl (fY _ _ _) rfl)<|.mv rfl rfl<|.P rfl (cn rfl rfl (addN (by unfold gB at*;omega)))<|.P rfl (b8 (off:=(out.length)*1) underlying188 sizeOf243 rfl rfl zO zQ zO)<|.W rfl (jd (r:=_) (out.length) 0 sizeOf243 rfl rfl rfl rfl rfl rfl (fY _ _ _) zS)<|.nil<|U.seq<|U.seq<|rg<|.mv rfl rfl<|.mv rfl rfl<|.P rfl (cC underlying188 rfl)<|.P rfl (bY rfl rfl)<|.nil<|U.cond rfl (fun h3=>?_) (fun h3=>?_)
    ·refine U.qY [.p,.p,.p,.r,.p,.p,.p,.p,.p,.p,.w] mS zK<|.mv rfl rfl<|.mv rfl rfl<|.P rfl (b8 (off:=(out.length)*1) underlying188 sizeOf243 rfl rfl zO zQ zO)<|.R rfl (fN (r:=_) (out.length) 0 isAgg243 rfl rfl rfl (im (fY _ _ _)) rfl)<|.mv rfl rfl<|.mv rfl rfl<|.P rfl (iR underlying188 sizeOf243 rfl rfl zO (ui (Cz (by simp at*;omega)) rfl))<|.P rfl (cG isAgg243 rfl)<|.P rfl (cn rfl rfl (addN (by unfold gB at*;omega)))<|.P rfl (b8 (off:=(out.length)*1) underlying188 sizeOf243 rfl rfl zO zQ zO)<|.W rfl (jd (r:=_) (out.length) 0 sizeOf243 rfl rfl rfl rfl rfl rfl (im (fY _ _ _)) zS)<|.nil<|U.seq<|rg<|.mv rfl rfl<|.mv rfl rfl<|.P rfl (b8 (off:=(out.length)*1) underlying188 sizeOf243 rfl rfl zO zQ zO)<|.R rfl (fN (r:=_) (out.length) 0 isAgg243 rfl rfl rfl (im (im (fY _ _ _))) rfl)<|.P rfl (oJ rfl rfl zD (wm (by unfold gB at*;omega)))<|.ag rfl rfl<|.nil<|rg<|.mv rfl rfl<|.mv rfl rfl<|.P rfl (b8 (off:=(out.length)*1) underlying188 sizeOf243 rfl rfl zO zQ zO)<|.R rfl (fN (r:=_) (out.length) 0 isAgg243 rfl rfl rfl (im (im (fY _ _ _))) rfl)<|.P rfl (qW rfl rfl zD (uL _))<|.P rfl (b8 (off:=(out.length)*1) underlying188 sizeOf243 rfl rfl zO zQ zO)<|.W rfl (jd (r:=_) (out.length) 0 sizeOf243 rfl rfl rfl rfl rfl rfl (im (im (fY _ _ _))) zS)<|.nil ?_;refine U.nil (dv ?_);refine rg<|.P rfl (cn rfl rfl (aB zO))<|.mv rfl rfl<|.nil<|U.nil (dx ?_)
     exact⟨⟨out++[(a+c+lY x out.length)%gB],rest,(a+c+lY x out.length)/gB,by simp;omega,by rw[Nat.div_le_iff_le_mul_add_pred ee];unfold gB at*;omega,fun u hu=>ho u (by simp[hu]),by rw[←hr,MD (by simp at*;omega)];simp⟩,by simp,Le.mk rfl (.s rfl rfl (.cons rfl (Sub.gs zS) rfl (.n 2 rfl rfl (.cons rfl (Sub.int zS) rfl .nil)))) (.arr rfl (by skip;simp only[List.set_set,List.set_cons_zero];exact(tO _ _ _ _).trans zS) .nil)⟩
    ·refine U.skip<|U.seq<|rg<|.mv rfl rfl<|.mv rfl rfl<|.P rfl (b8 (off:=(out.length)*1) underlying188 sizeOf243 rfl rfl zO zQ zO)<|.R rfl (fN (r:=_) (out.length) 0 isAgg243 rfl rfl rfl (im (fY _ _ _)) rfl)<|.P rfl (oJ rfl rfl zD (wm (by unfold gB at*;omega)))<|.ag rfl rfl<|.nil<|rg<|.mv rfl rfl<|.mv rfl rfl<|.P rfl (b8 (off:=(out.length)*1) underlying188 sizeOf243 rfl rfl zO zQ zO)<|.R rfl (fN (r:=_) (out.length) 0 isAgg243 rfl rfl rfl (im (fY _ _ _)) rfl)<|.P rfl (qW rfl rfl zD (uL _))<|.P rfl (b8 (off:=(out.length)*1) underlying188 sizeOf243 rfl rfl zO zQ zO)<|.W rfl (jd (r:=_) (out.length) 0 sizeOf243 rfl rfl rfl rfl rfl rfl (im (fY _ _ _)) zS)<|.nil<|U.nil (dv ?_);refine rg<|.P rfl (cn rfl rfl (aB zO))<|.mv rfl rfl<|.nil<|U.nil (dx ?_);exact⟨⟨out++[(a+c)%gB],rest,(a+c)/gB,by simp;omega,by rw[Nat.div_le_iff_le_mul_add_pred ee];unfold gB at*;omega,fun u hu=>ho u (by simp[hu]),by rw[←hr,MC (by simp at*;omega)];simp⟩,by simp,Le.mk rfl (.s rfl rfl (.cons rfl (Sub.gs zS) rfl (.n 2 rfl rfl (.cons rfl (Sub.int zS) rfl .nil)))) (.arr rfl (by skip;simp only[List.set_set,List.set_cons_zero];exact(tO _ _ _ _).trans zS) .nil)⟩
 ·have a_:=h1;try simp only[bs]at a_
  refine U.skip<|U.seq<|rg<|.mv rfl rfl<|.P rfl (cC underlying188 rfl)<|.mv rfl rfl<|.P rfl (cC underlying188 rfl)<|.P rfl (cn rfl rfl (aW zO zQ))<|.W rfl (AD (bt:=8) 0 _ underlying188 sizeOf243 typeInfo243 zeroValue243 rfl rfl rfl rfl rfl rfl (Int.natCast_succ _).symm zO (by rw[List.length_map];omega) zQ zQ rfl)<|.ag rfl rfl<|.nil<|U.seq<|rg<|.mv rfl rfl<|.mv rfl rfl<|.W rfl (Ub underlying188 sizeOf243 rfl rfl rfl zS zS (by rw[List.length_map];omega))<|.nil<|U.seq<|rg<|.ag rfl rfl<|.nil<|U.seq<|U.seq<|rg<|.mv rfl rfl<|.P rfl (uJ underlying188 rfl)<|.mv rfl rfl<|.nil<|U.block<|U.loop (ι:=T1 x y) (fun sx=>[(1,bc y),(5,.gs 0 x.length),(6,.raw (.int .u64 (sx.c:Int))),(25,.i x.length),(26,.i sx.out.length)]) (fun sx=>[(0,.arr 1 (bD (sx.out++sx.rest)))]) (fun sx=>sx.rest.length) ⟨[],x,0,by simp,by omega,nE,by simp⟩ ?_ ?_
  ·exact Le.mk rfl (.s rfl rfl (.cons rfl (Sub.gs zS) rfl (.s rfl rfl (.cons rfl (Sub.int zS) rfl (.s rfl rfl .nil))))) (.arr rfl (by rfl) .nil)
  ·rintro⟨out,rest,c,hl,hc,ho,hr⟩;try dsimp only
   rcases rest with _|⟨a,rest⟩
   ·skip;refine U.seq<|rg<|.P rfl (bY rfl rfl)<|.nil<|U.seq<|U.fG rfl (by simp at hl⊢;omega)<|U.exit (fc (eY ?_));refine U.seq<|U.seq<|rg<|.mv rfl rfl<|.P rfl (ju rfl rfl)<|.nil<|U.cond rfl (fun h4=>?_) (fun h4=>?_)
    ·have il:=h4;try simp only[bs]at il
     refine rg<|.mv rfl rfl<|.mv rfl rfl<|.P rfl (cm (n:=1) (rows:=bD [c]) underlying188 sizeOf243 rfl rfl rfl zeroValue243 rfl rfl rfl rfl rfl rfl rfl)<|.W rfl (dJ 1 underlying188 underlying188 sizeOf243 typeInfo243 zeroValue243 rfl (bt:=8) rfl rfl rfl rfl (by simp at hl⊢;omega) rfl rfl (by simp at*;omega))<|.ag rfl rfl<|.nil<|U.seq<|rg<|.mv rfl rfl<|.ag rfl rfl<|.nil ?_;refine U.bC (Le.freeze 4 1 rfl rfl (by simp at hl⊢;omega)) ?_;refine U.ret (?_);exact bS rfl (Sub.snap (by(rw[TZ (by simp at*;omega)]);rw[←hr];simp only[iW];(rw[if_pos zO]);try simp))
    ·have il:=h4;try simp only[bs]at il
     refine U.skip<|U.seq<|rg<|.mv rfl rfl<|.ag rfl rfl<|.nil ?_;refine U.bC (Le.freeze 4 0 rfl rfl (by simp at hl⊢;omega)) ?_;refine U.ret (?_);exact bS rfl (Sub.snap (by(rw[TZ (by simp at*;omega)]);rw[←hr];simp only[iW];(rw[if_neg zO]);try simp))
   ·simp only[List.length_cons]at hl;have ha:=ho a zS;have hb:=KI (k:=out.length) vK;refine U.seq<|rg<|.P rfl (bY rfl rfl)<|.nil<|U.seq<|U.iY rfl zQ<|U.skip<|U.seq<|U.block<|U.seq<|rg<|.mv rfl rfl<|.ag rfl rfl<|.nil<|U.seq<|rg<|.mv rfl rfl<|.mv rfl rfl<|.P rfl (b8 (off:=(out.length)*1) underlying188 sizeOf243 rfl rfl zO zQ zO)<|.R rfl (fN (r:=_) (out.length) 0 isAgg243 rfl rfl rfl (fY _ _ _) rfl)<|.mv rfl rfl<|.P rfl (cn rfl rfl (addN (by unfold gB at*;omega)))<|.P rfl (b8 (off:=(out.length)*1) underlying188 sizeOf243 rfl rfl zO zQ zO)<|.W rfl (jd (r:=_) (out.length) 0 sizeOf243 rfl rfl rfl rfl rfl rfl (fY _ _ _) zS)<|.nil<|U.seq<|U.seq<|rg<|.mv rfl rfl<|.mv rfl rfl<|.P rfl (cC underlying188 rfl)<|.P rfl (bY rfl rfl)<|.nil<|U.cond rfl (fun h5=>?_) (fun h5=>?_)
    ·refine U.qY [.p,.p,.p,.r,.p,.p,.p,.p,.p,.p,.w] mS zK<|.mv rfl rfl<|.mv rfl rfl<|.P rfl (b8 (off:=(out.length)*1) underlying188 sizeOf243 rfl rfl zO zQ zO)<|.R rfl (fN (r:=_) (out.length) 0 isAgg243 rfl rfl rfl (im (fY _ _ _)) rfl)<|.mv rfl rfl<|.mv rfl rfl<|.P rfl (iR underlying188 sizeOf243 rfl rfl zO (ui (Cz (by simp at*;omega)) rfl))<|.P rfl (cG isAgg243 rfl)<|.P rfl (cn rfl rfl (addN (by unfold gB at*;omega)))<|.P rfl (b8 (off:=(out.length)*1) underlying188 sizeOf243 rfl rfl zO zQ zO)<|.W rfl (jd (r:=_) (out.length) 0 sizeOf243 rfl rfl rfl rfl rfl rfl (im (fY _ _ _)) zS)<|.nil<|U.seq<|rg<|.mv rfl rfl<|.mv rfl rfl<|.P rfl (b8 (off:=(out.length)*1) underlying188 sizeOf243 rfl rfl zO zQ zO)<|.R rfl (fN (r:=_) (out.length) 0 isAgg243 rfl rfl rfl (im (im (fY _ _ _))) rfl)<|.P rfl (oJ rfl rfl zD (wm (by unfold gB at*;omega)))<|.ag rfl rfl<|.nil<|rg<|.mv rfl rfl<|.mv rfl rfl<|.P rfl (b8 (off:=(out.length)*1) underlying188 sizeOf243 rfl rfl zO zQ zO)<|.R rfl (fN (r:=_) (out.length) 0 isAgg243 rfl rfl rfl (im (im (fY _ _ _))) rfl)<|.P rfl (qW rfl rfl zD (uL _))<|.P rfl (b8 (off:=(out.length)*1) underlying188 sizeOf243 rfl rfl zO zQ zO)<|.W rfl (jd (r:=_) (out.length) 0 sizeOf243 rfl rfl rfl rfl rfl rfl (im (im (fY _ _ _))) zS)<|.nil ?_;refine U.nil (dv ?_);refine rg<|.P rfl (cn rfl rfl (aB zO))<|.mv rfl rfl<|.nil<|U.nil (dx ?_)
     exact⟨⟨out++[(a+c+lY y out.length)%gB],rest,(a+c+lY y out.length)/gB,by simp;omega,by rw[Nat.div_le_iff_le_mul_add_pred ee];unfold gB at*;omega,fun u hu=>ho u (by simp[hu]),by rw[←hr,MD (by simp at*;omega)];simp⟩,by simp,Le.mk rfl (.s rfl rfl (.cons rfl (Sub.gs zS) rfl (.n 2 rfl rfl (.cons rfl (Sub.int zS) rfl .nil)))) (.arr rfl (by skip;simp only[List.set_set,List.set_cons_zero];exact(tO _ _ _ _).trans zS) .nil)⟩
    ·refine U.skip<|U.seq<|rg<|.mv rfl rfl<|.mv rfl rfl<|.P rfl (b8 (off:=(out.length)*1) underlying188 sizeOf243 rfl rfl zO zQ zO)<|.R rfl (fN (r:=_) (out.length) 0 isAgg243 rfl rfl rfl (im (fY _ _ _)) rfl)<|.P rfl (oJ rfl rfl zD (wm (by unfold gB at*;omega)))<|.ag rfl rfl<|.nil<|rg<|.mv rfl rfl<|.mv rfl rfl<|.P rfl (b8 (off:=(out.length)*1) underlying188 sizeOf243 rfl rfl zO zQ zO)<|.R rfl (fN (r:=_) (out.length) 0 isAgg243 rfl rfl rfl (im (fY _ _ _)) rfl)<|.P rfl (qW rfl rfl zD (uL _))<|.P rfl (b8 (off:=(out.length)*1) underlying188 sizeOf243 rfl rfl zO zQ zO)<|.W rfl (jd (r:=_) (out.length) 0 sizeOf243 rfl rfl rfl rfl rfl rfl (im (fY _ _ _)) zS)<|.nil<|U.nil (dv ?_);refine rg<|.P rfl (cn rfl rfl (aB zO))<|.mv rfl rfl<|.nil<|U.nil (dx ?_);exact⟨⟨out++[(a+c)%gB],rest,(a+c)/gB,by simp;omega,by rw[Nat.div_le_iff_le_mul_add_pred ee];unfold gB at*;omega,fun u hu=>ho u (by simp[hu]),by rw[←hr,MC (by simp at*;omega)];simp⟩,by simp,Le.mk rfl (.s rfl rfl (.cons rfl (Sub.gs zS) rfl (.n 2 rfl rfl (.cons rfl (Sub.int zS) rfl .nil)))) (.arr rfl (by skip;simp only[List.set_set,List.set_cons_zero];exact(tO _ _ _ _).trans zS) .nil)⟩
structure ahK where
 u:Unit
theorem ahJ:Fc Tryz.prog 154 [.snap 1 false [],.snap 1 false []] (.snap 1 false []):=by
 refine bE func154 ntmps154 results154 ?_;refine go []<|aQ (rfl)<|sd (aW zO zS)<|oP (aiw (bt:=8) underlying188 sizeOf243 typeInfo243 zeroValue243 rfl rfl rfl rfl (m:=1) rfl zD zD zD)<|oP (aih underlying188 sizeOf243 rfl rfl)<|U.loop (ι:=ahK) (fun sx=>[(5,.snap 1 false []),(6,.raw (.int .u64 ((0:Nat):Int))),(25,.i 0),(26,.i 0)]) (fun sx=>[]) (fun sx=>0) ⟨()⟩ ?_ ?_
 ·exact Le.mk rfl (.n 4 rfl rfl .nil) .nil
 ·rintro⟨u⟩;try dsimp only
  skip
  ·skip;exact go []<|aQ (rfl)<|go []<|aQ (rfl)<|an rfl (Sub.refl _)
theorem Lc(x y:List Nat)(vJ:x.length≤20000)(zM:y.length≤20000)(nE:aU x)(vK:aU y):Fc Tryz.prog 154 [bc x,bc y] (bc (nQ x y)):=by
 by_cases h:x.length≠0∨y.length≠0
 ·exact ahH x y h vJ zM nE vK
 ·have e1:x=[]:=List.length_eq_zero_iff.1 zO;have e2:y=[]:=List.length_eq_zero_iff.1 zO;subst e1;subst e2;exact ahJ
theorem MI(n1:Bool)(x:List Nat)(n2:Bool)(y:List Nat)(k1:pq n1 x)(k2:pq n2 y)(hx:x.length≤9000)(hy:y.length≤9000):Fc Tryz.prog 108 [.agg (pN n1 x),.agg (pN n2 y)] (.agg (pN (jk n1 x n2 y).1 (jk n1 x n2 y).2)):=by
 refine Fc.j2 func108 rfl ntmps108 rfl rfl rfl ?_;refine go [99999]<|br (fun h1=>?_) (fun h1=>?_)
 ·refine oP (aj call154 rfl (Lc _ _ zO zO k1.ok k2.ok))<|ord<|U.ret (?_);exact Rd.cA results108 isAgg190 sizeOf190 rfl rfl rfl (Sub.agg (.cons (Sub.bool (by unfold jk;(rw[if_pos zA];done))) (.cons (Sub.snap (by unfold jk;(rw[if_pos zA];done))) .nil)))
 ·refine oP (aj call155 rfl (yP _ _ zO zO))<|br (fun h2=>?_) (fun h2=>?_)
  ·have dO:=h2;try simp only[bs]at dO
   refine oP (aj call156 rfl (Fv _ _ (by exact Nu zO) zO zO (by exact k2.ok) (by exact k1.ok)))<|ord<|U.ret (?_);exact Rd.cA results108 isAgg190 sizeOf190 rfl rfl rfl (Sub.agg (.cons (Sub.bool (by unfold jk;(rw[if_neg (by simpa using ‹(n1==n2)=false›)];(rw[if_pos zO];done)))) (.cons (Sub.snap (by unfold jk;(rw[if_neg (by simpa using ‹(n1==n2)=false›)];(rw[if_pos zO];done)))) .nil)))
  ·have dO:=h2;try simp only[bs]at dO
   refine oP (aj call156 rfl (Fv _ _ (by exact Ys k1 k2 zA zO) zO zO (by exact k1.ok) (by exact k2.ok)))<|ord<|U.ret (?_);exact Rd.cA results108 isAgg190 sizeOf190 rfl rfl rfl (Sub.agg (.cons (Sub.bool (by unfold jk;(rw[if_neg (by simpa using ‹(n1==n2)=false›)];(rw[if_neg zO];done)))) (.cons (Sub.snap (by unfold jk;(rw[if_neg (by simpa using ‹(n1==n2)=false›)];(rw[if_neg zO];done)))) .nil)))
theorem MP(s t:ae)(hs:s.length≤4000)(ht:t.length≤4000):Fc Tryz.prog 76 [.str s,.str t] (.str (ma s t)):=by
 refine bE func76 ntmps76 results76 ?_;have qz:=m_ s;have dH:=ru (digits s).1;have Qk:=m_ t;have Qv:=ru (digits t).1;have h1:=oB s;have h2:=oB t;have h3:=MG h1 h2;have h4:=MF (digits s).2 (digits t).2 (gu (digits s).1) (gu (digits t).1);have h5:=MH h1 h2;exact go []<|oP (aj call109 rfl (uK _ zO))<|oP (aj call109 rfl (uK _ zO))<|oP (aj call108 rfl (MI _ _ _ _ zA zA zO zO))<|oP (aj call110 rfl (AS _ _ zA zO))<|an rfl (Sub.str (by rw[Dl _ h3];unfold ma;rw[←nN s,←nN t,←h5];rfl))
theorem yQ(s t:ae)(hs:s.length≤4000)(ht:t.length≤4000):Fc Tryz.prog 119 [.str s,.str t] (.i (jf (val s-val t))):=by
 refine bE func119 ntmps119 results119 ?_;have qz:=m_ s;have dH:=ru (digits s).1;have Qk:=m_ t;have Qv:=ru (digits t).1;have hb:=Yq (gu (digits s).1) (gu (digits t).1) zO zO;refine U.seq<|rg<|.ag rfl rfl<|.nil<|U.seq<|rg<|.mv rfl rfl<|.P rfl (aj call109 rfl (uK _ zO))<|.mv rfl rfl<|.P rfl (aj call109 rfl (uK _ zO))<|.W rfl (ln 0 zeroValue190 rfl)<|.W rfl (ln 1 zeroValue190 rfl)<|.W rfl (mJ sizeOf190 rfl rfl rfl rfl rfl rfl)<|.W rfl (mJ sizeOf190 rfl rfl rfl rfl rfl rfl)<|.nil<|U.seq<|rg<|.P rfl (bJ (n:=0) 188 1 underlying190 sizeOf188 rfl rfl)<|.R rfl (bP isAgg188 rfl rfl rfl)<|.P rfl (bJ (n:=0) 188 1 underlying190 sizeOf188 rfl rfl)<|.R rfl (bP isAgg188 rfl rfl rfl)<|.P rfl (aj call155 rfl (yP _ _ zO zO))<|.ag rfl rfl<|.nil<|U.seq<|U.block<|U.seq<|rg<|.P rfl (bJ (n:=0) 4 0 underlying190 sizeOf4 rfl rfl)<|.R rfl (bP isAgg4 rfl rfl rfl)<|.P rfl (bJ (n:=0) 4 0 underlying190 sizeOf4 rfl rfl)<|.R rfl (bP isAgg4 rfl rfl rfl)<|.P rfl (Uj underlying4 rfl rfl)<|.ag rfl rfl<|.nil<|U.cond rfl (fun h1=>?_) (fun h1=>?_)
 ·refine U.seq<|rg<|.ag rfl rfl<|.nil<|U.seq<|rg<|.P rfl (bJ (n:=0) 4 0 underlying190 sizeOf4 rfl rfl)<|.R rfl (bP isAgg4 rfl rfl rfl)<|.nil<|U.cond rfl (fun h2=>?_) (fun h2=>?_)
  ·refine rg<|.ag rfl rfl<|.nil<|U.nil (dv ?_);refine U.seq<|rg<|.mv rfl rfl<|.P rfl (AE rfl rfl rfl)<|.P rfl (CZ rfl rfl rfl)<|.ag rfl rfl<|.nil<|U.ret (?_);exact bS rfl (Sub.int (by rw[←nN s,←nN t,←DY (oB s) (oB t)];unfold yO;rw[if_pos h1,if_pos h2]))
  ·refine U.skip<|U.nil (dv ?_);refine U.seq<|rg<|.mv rfl rfl<|.P rfl (AE rfl rfl rfl)<|.P rfl (CZ rfl rfl rfl)<|.ag rfl rfl<|.nil<|U.ret (?_);exact bS rfl (Sub.int (by rw[←nN s,←nN t,←DY (oB s) (oB t)];unfold yO;rw[if_pos h1,if_neg (by simp[h2])]))
 ·refine U.seq<|rg<|.P rfl (bJ (n:=0) 4 0 underlying190 sizeOf4 rfl rfl)<|.R rfl (bP isAgg4 rfl rfl rfl)<|.ag rfl rfl<|.nil<|U.cond rfl (fun h3=>?_) (fun h3=>?_)
  ·refine rg<|.mv rfl rfl<|.P rfl (F7 rfl (aB zO))<|.ag rfl rfl<|.nil<|U.nil (dv ?_);refine U.seq<|rg<|.mv rfl rfl<|.P rfl (AE rfl rfl rfl)<|.P rfl (CZ rfl rfl rfl)<|.ag rfl rfl<|.nil<|U.ret (?_);exact bS rfl (Sub.int (by rw[←nN s,←nN t,←DY (oB s) (oB t)];unfold yO;rw[if_neg (by simp[h1]),if_pos h3]))
  ·refine U.skip<|U.nil (dv ?_);refine U.seq<|rg<|.mv rfl rfl<|.P rfl (AE rfl rfl rfl)<|.P rfl (CZ rfl rfl rfl)<|.ag rfl rfl<|.nil<|U.ret (?_);exact bS rfl (Sub.int (by rw[←nN s,←nN t,←DY (oB s) (oB t)];unfold yO;rw[if_neg (by simp[h1]),if_neg (by simp[h3])]))
theorem YW(s:ae)(c:UInt8):Fc Tryz.prog 294 [.str s,.str [c]] (.bl [.str (kB s c).1,.str (kB s c).2.1,.b (kB s c).2.2]):=by
 refine Io func294 ntmps294 results294 ?_;refine U.qh 0 rfl (fun hb=>?_);simp only[aH]at hb;have hi:=Q7 c s;refine go []<|oP (aj call325 rfl (adn _ _))<|br (fun h1=>?_) (fun h1=>?_)
 ·have a_:=h1;try simp only[bs]at a_
  exact oP (wj underlying9 rfl (h:=(Lib.indexByte s c).toNat) (r:=s.take (Lib.indexByte s c).toNat) (.inl ⟨rfl,rfl⟩) (.inr ⟨_,_,rfl,x7 rfl zO⟩) zO zO zS)<|sd (aW zO zQ)<|oP (wj underlying9 rfl (l:=(Lib.indexByte s c).toNat+1) (r:=s.drop ((Lib.indexByte s c).toNat+1)) (.inr ⟨_,_,rfl,x7 rfl zQ⟩) (.inl ⟨rfl,rfl⟩) zO zO (List.take_of_length_le zS))<|ord<|C5 rfl rfl rfl (Sub.str (by unfold kB;rw[if_pos zO])) (Sub.str (by unfold kB;rw[if_pos zO])) (Sub.bool (by unfold kB;rw[if_pos zO]))
 ·have a_:=h1;try simp only[bs]at a_
  exact C5 rfl rfl rfl (Sub.str (by unfold kB;rw[if_neg zO])) (Sub.str (by unfold kB;rw[if_neg zO])) (Sub.bool (by unfold kB;rw[if_neg zO]))
theorem ako(s:ae)(c:UInt8):Fc Tryz.prog 238 [.str s,.str [c]] (.bl [.str (kB s c).1,.str (kB s c).2.1,.b (kB s c).2.2]):=by
 refine Io func238 ntmps238 results238 ?_;exact go []<|oP (aj call294 rfl (YW _ _))<|C5 rfl rfl rfl (Sub.refl _) (Sub.refl _) (Sub.refl _)
structure agk(s:ae)where
 pre:List UInt8
 rest:List UInt8
 hx:s=pre++rest
 hp:pre.all Ag=true
 hs:1≤s.length∧s.length≤16
theorem Cw(s:ae):Fc Tryz.prog 97 [.str s] (.b (isName s)):=by
 refine bE func97 ntmps97 results97 ?_;refine U.qh 0 rfl (fun hb=>?_);simp only[aH]at hb;refine U.seq<|rg<|.ag rfl rfl<|.nil<|U.seq (U.seq (U.cH [.p,.p,.p,.p,.p,.p,.p,.p] ?_));refine .mv rfl rfl<|.P rfl (ko underlying9 rfl)<|.P rfl (l5 rfl rfl)<|.mv rfl rfl<|.gF rfl (.inl rfl) rfl rfl rfl (fun hg=>pk (fun _=>bG rfl _))<|.gF rfl (.inl rfl) rfl rfl rfl (fun hg=>pk (fun _=>ko underlying9 (bI rfl (nt hg)) _))<|.gF rfl (.inl rfl) rfl rfl rfl (fun hg=>pk (fun _=>ju (bI rfl (nt hg)) rfl _))<|.P rfl (rT rfl rfl)<|.nil<|U.cond rfl (fun h1=>?_) (fun h1=>?_)
 ·refine U.seq<|rg<|.ag rfl rfl<|.nil<|U.ret (?_);exact bS rfl (Sub.bool (by grind[isName,Ag]))
 ·refine U.skip<|U.seq<|U.seq<|rg<|.mv rfl rfl<|.P rfl (T_ (u:=.string) underlying9 underlying217 underlying5 rfl)<|.P rfl (cC underlying217 rfl)<|.mv rfl rfl<|.nil<|U.block<|U.loop (ι:=agk s) (fun sx=>[(14,.snap 1 false (s.map fun c=>[.raw (.int .u8 (UInt8.toNat c:Int))])),(15,.i s.length),(16,.i sx.pre.length)]) (fun sx=>[]) (fun sx=>sx.rest.length) ⟨[],s,rfl,rfl,by grind⟩ ?_ ?_
  ·exact Le.mk rfl (.s rfl rfl (.cons rfl (Sub.int zS) rfl (.s rfl rfl .nil))) .nil
  ·rintro⟨pre,rest,hx,hp,hs⟩;dsimp only;rcases lc hx with⟨rfl,hl⟩|⟨x,rest,rfl,hl⟩
   ·skip;refine U.seq<|rg<|.P rfl (bY rfl rfl)<|.nil<|U.seq<|U.fG rfl (by simp at hl⊢;omega)<|U.exit (fc (eY ?_));refine U.seq<|rg<|.ag rfl rfl<|.nil<|U.ret (?_);exact bS rfl (Sub.bool (by grind[isName,Ag]))
   ·refine U.seq<|rg<|.P rfl (bY rfl rfl)<|.nil<|U.seq<|U.iY rfl zQ<|U.skip<|U.seq<|U.block<|U.seq<|rg<|.P rfl (iR underlying217 sizeOf5 rfl rfl zO (bb (fun c=>[D.raw (.int .u8 (UInt8.toNat c:Int))]) hx rfl))<|.P rfl (cG isAgg5 rfl)<|.ag rfl rfl<|.nil<|U.seq (U.cH [.p,.p,.p,.p,.p,.p,.p,.p,.p,.p,.p,.p,.p,.p,.p,.p,.p,.p] ?_);refine .mv rfl rfl<|.P rfl (bY rfl rfl)<|.mv rfl rfl<|.gF rfl (.inl rfl) rfl rfl rfl (fun hg=>pk (fun _=>bG rfl _))<|.gF rfl (.inl rfl) rfl rfl rfl (fun hg=>pk (fun _=>ju (bI rfl (nt hg)) rfl _))<|.P rfl (rT rfl rfl)<|.mv rfl rfl<|.gT rfl (.inl rfl) rfl rfl rfl (fun hg=>pk (fun _=>bG rfl _))<|.gT rfl (.inl rfl) rfl rfl rfl (fun hg=>pk (fun _=>bY (bI rfl hg) rfl _))<|.gT rfl (.inl rfl) rfl rfl rfl (fun hg=>pk (fun _=>bG (bI rfl hg) _))<|.nF rfl (.inl rfl) rfl rfl rfl (fun hc hg=>pk (fun _=>bG rfl _))<|.nF rfl (.inl rfl) rfl rfl rfl (fun hc hg=>pk (fun _=>ju (bI rfl (bF hc hg)) rfl _))<|.gT rfl (.inl rfl) rfl rfl rfl (fun hg=>pk (fun _=>rT (bI rfl hg) (opA rfl hg) _))<|.P rfl (kN rfl rfl)<|.mv rfl rfl<|.gT rfl (.inl rfl) rfl rfl rfl (fun hg=>pk (fun _=>bG rfl _))<|.gT rfl (.inl rfl) rfl rfl rfl (fun hg=>pk (fun _=>wi (bI rfl hg) rfl _))<|.P rfl (kN rfl rfl)<|.nil<|U.cond rfl (fun h2=>?_) (fun h2=>?_)
    ·refine U.seq<|rg<|.ag rfl rfl<|.nil<|U.ret (lS (u4 (lS (?_))));exact bS rfl (Sub.bool (by grind[isName,Ag]))
    ·refine U.skip<|U.nil (dv ?_);refine rg<|.P rfl (cn rfl rfl (aB zO))<|.mv rfl rfl<|.nil<|U.nil (dx ?_);exact⟨⟨pre++[x],rest,by simp[hx],by grind[Ag],hs⟩,by simp,Le.mk rfl (.n 2 rfl rfl (.cons rfl (Sub.int zS) rfl .nil)) .nil⟩
theorem ad3(c:dB)(code:ae):Fc Tryz.prog 222 [.agg (w_ c),.bz [.str code]] (.b (decide (c.code=code))):=by
 refine bE func222 ntmps222 results222 ?_;exact go []<|an rfl (Sub.refl _)
structure abp(l:List dB)(code:ae)where
 pre:List dB
 rest:List dB
 hx:l=pre++rest
 hp:∀c∈pre,c.code≠code
theorem abo(l:List dB)(code:ae):Fc Tryz.prog 221 [p_ l,.fn (.func 222) [] [.bz [.str code]]] (.bl [.agg (w_ (nn code l).1),.b (nn code l).2]):=by
 refine Fc.j2 func221 rfl ntmps221 rfl rfl rfl ?_;refine U.ec 0 rfl (fun hb=>?_);simp only[List.length_map,aH]at hb;refine go [99999]<|U.loop (ι:=abp l code) (fun sx=>[(0,p_ l),(1,.fn (.func 222) [] [.bz [.str code]]),(4,.box 0 0),(9,p_ l),(10,.i l.length),(11,.i sx.pre.length)]) (fun sx=>[(0,.cells [.str [],.raw (.int .i64 0)])]) (fun sx=>sx.rest.length) ⟨[],l,rfl,by simp⟩ ?_ ?_
 ·exact Le.mk rfl (.n 4 rfl rfl (.cons rfl (Sub.int zS) rfl (.s rfl rfl .nil))) (.cons rfl rfl .nil)
 ·rintro⟨pre,rest,hx,hp⟩;dsimp only;rcases lc hx with⟨rfl,hl⟩|⟨x,rest,rfl,hl⟩
  ·skip;refine go [99999]<|aQ (by simp at hl⊢;omega)<|go [99999]<|U.ret (?_);exact Rd.tE results221 isAgg63 sizeOf63 rfl rfl rfl rfl (Sub.agg (.cons (Sub.str (by rw[Ig hx hp])) (.cons (Sub.int (by rw[Ig hx hp])) .nil))) (Sub.bool (by rw[Ig hx hp]))
  ·refine go [99999]<|bM zQ<|ix zO (bb w_ hx rfl)<|oP (cR call222 rfl rfl (ad3 _ _))<|br (fun h1=>?_) (fun h1=>?_)
   ·refine U.ret (lS (u4 (lS (?_))));exact Rd.tE results221 isAgg63 sizeOf63 rfl rfl rfl rfl (Sub.agg (.cons (Sub.str (by rw[Ih hx hp (by simpa using h1)])) (.cons (Sub.int (by rw[Ih hx hp (by simpa using h1)])) .nil))) (Sub.bool (by rw[Ih hx hp (by simpa using h1)]))
   ·exact sd (aB zO)<|nx ⟨pre++[x],rest,by simp[hx],by intro c hc;rcases List.mem_append.1 hc with hc|hc;exact hp c hc;simp at hc;subst hc;simpa using h1⟩ zS (Le.mk rfl (.n 5 rfl rfl (.cons rfl (Sub.int zS) rfl .nil)) (.cons rfl rfl .nil))
theorem Ii(l:List dB)(code:ae):Fc Tryz.prog 180 [p_ l,.str code] (.bl [.agg (w_ (nn code l).1),.b (nn code l).2]):=by
 refine Fc.j2 func180 rfl ntmps180 rfl rfl rfl ?_;refine go [1,99999] ?_;refine U.bC (Le.h_ 3 0 rfl rfl rfl rfl) ?_;refine go [99999]<|oP (aj call221 rfl (abo _ _))<|U.ret (?_);exact Rd.tE results180 isAgg63 sizeOf63 rfl rfl rfl rfl (Sub.agg (.r (.r .nil))) (Sub.refl _)
structure X5(l:List dB)where
 pre:List dB
 rest:List dB
 hx:l=pre++rest
 P0:l.length≤16
 hp:pL [] l=pL pre rest
theorem X4(l:List dB):Fc Tryz.prog 129 [p_ l] (.i (se l)):=by
 refine bE func129 ntmps129 results129 ?_;refine U.ec 0 rfl (fun hb=>?_);simp only[List.length_map,aH]at hb;refine go [10]<|br (fun h1=>?_) (fun h1=>?_)
 ·exact an rfl (Sub.int (by unfold se;rw[if_pos (by simp only[bs]at h1;omega)]))
 ·refine U.loop (ι:=X5 l) (fun sx=>[(0,p_ l),(10,p_ l),(11,.i l.length),(12,.i sx.pre.length)]) (fun sx=>[]) (fun sx=>sx.rest.length) ⟨[],l,rfl,by simp only[bs]at h1;omega,rfl⟩ ?_ ?_
  ·exact Le.mk rfl (.n 2 rfl rfl (.cons rfl (Sub.int zS) rfl (.s rfl rfl .nil))) .nil
  ·rintro⟨pre,rest,hx,P0,hp⟩;dsimp only;rcases lc hx with⟨rfl,hl⟩|⟨x,rest,rfl,hl⟩
   ·have BS:se l=0:=by rw[show(0:Int)=pL pre []from rfl,←hp];unfold se;rw[if_neg zO]
    exact go [10]<|aQ (by simp at hl⊢;omega)<|go [10]<|an rfl (Sub.int (by exact BS.symm))
   ·have BS:se l=pL pre (x::rest):=by rw[←hp];unfold se;rw[if_neg zO]
    refine go [10]<|bM zQ<|ix zO (bb w_ hx rfl)<|oP (aj call72 rfl (Rk _))<|br (fun h2=>?_) (fun h2=>?_)
    ·exact an rfl (Sub.int (by exact Hy BS (YT h2) zD))
    ·refine br (fun h3=>?_) (fun h3=>?_)
     ·exact an rfl (Sub.int (by exact Hy BS (YU h2 h3) zD))
     ·refine U.bC (Le.h_ 4 0 rfl rfl rfl rfl) ?_;refine go []<|oP (kp underlying64 sizeOf63 rfl (l:=0) (h:=pre.length) (r:=pre.map w_) (.inl ⟨rfl,rfl⟩) (.inr ⟨_,_,rfl,rfl⟩) zO (by simp[hx]) (by rw[hx];simp))<|oP (aj call180 rfl (Ii pre x.code))<|ord<|br (fun h4=>?_) (fun h4=>?_)
      ·exact an rfl (Sub.int (by exact Hy BS (YV h2 h3 h4) zD))
      ·exact go [10]<|sd (aB zO)<|nx ⟨pre++[x],rest,by simp[hx],P0,X3 hp (YS h2 h3 h4)⟩ zS (Le.mk rfl (.n 3 rfl rfl (.cons rfl (Sub.int zS) rfl .nil)) .nil)
theorem VS(d:Int):Fc Tryz.prog 182 [.i d] (.b (Mc d)):=by
 refine bE func182 ntmps182 results182 ?_;exact go []<|an rfl (Sub.refl _)
end Go.T
