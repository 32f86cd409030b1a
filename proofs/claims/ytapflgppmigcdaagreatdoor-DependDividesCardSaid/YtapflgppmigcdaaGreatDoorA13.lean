/-
  Contracts of the functions that the statement reaches, and the logic in which they are proved (no condition): parts W73, S5, SpecD5, W74, Core46, SpecD6, W85, Core47, S6, W86, SpecD7, W87, Core35, Core37, Core48, SpecD8.
-/
import Derived.Test.YtapflgppmigcdaaGreatDoorA12
set_option linter.all false
namespace Go.T
open Go Go.Proofs Go.Proofs.Tryz
set_option maxRecDepth 20000
theorem aiN:Fc Tryz.prog 173 [] (.agg [.b false,.raw .nilFunc,.b false,.fn (.func 218) [] [],.b true,.fn (.func 219) [] [],.b false,.fn (.func 218) [] [],.b false,.fn (.func 218) [] [],.b true,.fn (.func 220) [] []]):=by
 refine Fc.iI func173 rfl ntmps173 rfl rfl rfl ?_;refine go [99999] ?_;refine J.ret (?_);exact Rd.cA results173 isAgg199 sizeOf199 rfl rfl rfl (Sub.agg (.r (.cons (Sub.refl _) (.r (.cons (Sub.refl _) (.r (.cons (Sub.refl _) (.r (.cons (Sub.refl _) (.r (.cons (Sub.refl _) (.r (.r .nil)))))))))))))
def rR(k:Int):FuncId:=if k=2 then 219 else if k=5 then 220 else 218
theorem aiO{k:Int}(h1:1≤k)(h5:k≤5):(List.drop (k.toNat*2) [D.b false,D.raw .nilFunc,D.b false,D.fn (.func 218) [] [],D.b true,D.fn (.func 219) [] [],D.b false,D.fn (.func 218) [] [],D.b false,D.fn (.func 218) [] [],D.b true,D.fn (.func 220) [] []]).take 2=[.b (zN k),.fn (.func (rR k)) [] []]:=by
 have:k=1∨k=2∨k=3∨k=4∨k=5:=by omega
 rcases this with rfl|rfl|rfl|rfl|rfl<;>rfl
theorem aiM(k:Int):∀(args:Array Value)(w:World),(callFunc (rR k) args).run Tryz.prog w=.ok (.enter (rR k) args) w:=by
 unfold rR;split
 ·exact call219
 ·split
  ·exact call220
  ·exact call218
theorem aiL(k:Int)(i:bJ)(hs:pj i):Fc Tryz.prog (rR k) [.agg (iD i)] (.i (BM k i)):=by
 unfold rR BM;split
 ·exact VN i hs
 ·split
  ·exact abc i hs
  ·exact ahv i hs
structure adJ(i:bJ)where
 pre:List aP
 rest:List aP
 hx:[i.j7,i.j6,i.kp]=pre++rest
 hp:n0 (BM i.kind i) [i.j7,i.j6,i.kp]=n0 (BM i.kind i) rest
theorem adI(i:bJ)(hs:pj i):Fc Tryz.prog 118 [.agg (iD i)] (.i (ke i)):=by
 refine Fc.mk' [2] func118 rfl ntmps118 rfl rfl rfl (fun t w=>results_tmp results118 t _ w) ?_;refine go [11] ?_;refine oP (ai call86 rfl (yz _)) ?_;refine br (fun h1=>?_) (fun h1=>?_)
 ·exact ah rfl (Sub.int (by unfold ke;exact iY h1))
 ·skip
  skip;refine br (fun h2=>?_) (fun h2=>?_)
  ·exact ah rfl (Sub.int (by unfold ke;exact cT h1 (iY h2)))
  ·have c7:=h2;try simp only[bs]at c7
   refine oP (ai call171 rfl (PQ _)) ?_;refine br (fun h3=>?_) (fun h3=>?_)
   ·exact ah rfl (Sub.int (by unfold ke;exact cT h1 (cT h2 (iY h3))))
   ·refine br (fun h4=>?_) (fun h4=>?_)
    ·exact ah rfl (Sub.int (by unfold ke;exact cT h1 (cT h2 (cT h3 (iY h4)))))
    ·refine oP (ai call172 rfl (Uf _)) ?_;refine br (fun h5=>?_) (fun h5=>?_)
     ·exact ah rfl (Sub.int (by unfold ke;exact cT h1 (cT h2 (cT h3 (cT h4 (iY h5))))))
     ·refine J.bP (Le.gg 1 0 rfl rfl rfl rfl) ?_;refine go [] ?_;refine oP (ai call173 rfl aiN) ?_;refine oP (SO (r:=[.b (zN i.kind),.fn (.func (rR i.kind)) [] []]) underlying199 isAgg198 sizeOf198 rfl rfl zO zO zQ (aiO zO zO)) ?_;refine ord ?_;refine gP (fun hg=>ai call172 rfl (Uf _)) ?_;refine br (fun h6=>?_) (fun h6=>?_)
      ·exact ah rfl (Sub.int (by unfold ke;exact cT h1 (cT h2 (cT h3 (cT h4 (cT h5 (iY h6)))))))
      ·refine oP (bI (n:=3) (rows:=[cG i.j7,cG i.j6,cG i.kp]) underlying116 sizeOf35 rfl rfl rfl zeroValue35 rfl rfl rfl rfl rfl rfl rfl) ?_;refine J.loop (ι:=adJ i) (fun sx=>[(1,.aY (iD i)),(3,.box 1 0),(75,.snap 2 true ([i.j7,i.j6,i.kp].map cG)),(76,.i 3),(77,.i sx.pre.length)]) (fun sx=>[(1,.cells [.b (zN i.kind),.fn (.func (rR i.kind)) [] []])]) (fun sx=>sx.rest.length) ⟨[],_,rfl,rfl⟩ ?_ ?_
       ·exact Le.mk rfl (.s rfl rfl (.s rfl rfl (.s rfl rfl (.s rfl rfl (.s rfl rfl .nil))))) (.cons rfl rfl .nil)
       ·rintro⟨pre,rest,hx,hp⟩;show J _ _ _ _ [(1,.aY (iD i)),(3,.box 1 0),(75,.snap 2 true ([i.j7,i.j6,i.kp].map cG)),(76,.i 3),(77,.i pre.length)] [(1,.cells [.b (zN i.kind),.fn (.func (rR i.kind)) [] []])];have hl:=congrArg List.length hx;simp only[List.length_append,List.length_cons,List.length_nil]at hl;rcases rest with _|⟨x,rest⟩
        ·skip;refine go [11] ?_;refine aR (by simp at hl⊢;omega) ?_;refine go [11] ?_;refine oP (dX (aiM i.kind) rfl rfl (aiL i.kind i hs)) ?_;exact ah rfl (Sub.int (by unfold ke;exact cT h1 (cT h2 (cT h3 (cT h4 (cT h5 (cT h6 hp.symm)))))))
        ·simp only[List.length_cons]at hl;have j_:=QX hx;refine go [11] ?_;refine a_ zQ ?_;refine ix zO (bn cG hx rfl) ?_;refine oP (ai call174 rfl (agp x (by rcases j_ with rfl|rfl|rfl;exact hs.1;exact hs.2.1;exact hs.2.2))) ?_;refine br (fun h7=>?_) (fun h7=>?_)
         ·exact ah rfl (Sub.int (by unfold ke;exact cT h1 (cT h2 (cT h3 (cT h4 (cT h5 (cT h6 (agz hp h7))))))))
         ·refine sd (az zO) ?_;exact nx ⟨pre++[x],rest,by simp[hx],agy hp h7⟩ zS (Le.mk rfl (.s rfl rfl (.s rfl rfl (.s rfl rfl (.s rfl rfl (.cons rfl (Sub.int zS) rfl .nil))))) (.cons rfl rfl .nil))
structure P7(i:bJ)(t:List cp)where
 pre:List aa
 rest:List aa
 hx:lv i=pre++rest
 hp:pre.any (fun c=>!(lC c t).2)=false
theorem aeh(i:bJ)(t:List cp):Fc Tryz.prog 119 [.agg (iD i),iL t] (.i (IA i t)):=by
 refine Fc.mk' [4] func119 rfl ntmps119 rfl rfl rfl (fun t w=>results_tmp results119 t _ w) ?_;have tM:(lv i).length≤2:=by unfold lv;split<;>simp
 refine go [] ?_;refine oP (bI (n:=1) (rows:=[[D.str i.cur]]) underlying48 sizeOf9 rfl rfl rfl zeroValue9 rfl rfl rfl rfl rfl rfl rfl) ?_;refine br (fun h1=>?_) (fun h1=>?_)
 ·refine oP (bI (n:=1) (rows:=[[D.str i.other]]) underlying48 sizeOf9 rfl rfl rfl zeroValue9 rfl rfl rfl rfl rfl rfl rfl) ?_;refine oP (ahF underlying48 underlying48 sizeOf9 typeInfo9 zeroValue9 rfl (bt:=16) rfl rfl rfl rfl zS zS) ?_;refine J.loop (ι:=P7 i t) (fun sx=>[(1,iL t),(21,.snap 1 false ((lv i).map fun s=>[D.str s])),(22,.i (lv i).length),(23,.i sx.pre.length)]) (fun sx=>[]) (fun sx=>sx.rest.length) ⟨[],_,rfl,rfl⟩ ?_ ?_
  ·exact Le.mk rfl (.s rfl rfl (.cons rfl (Sub.snap (by(unfold lv;(rw[if_pos (by simpa using h1)];rfl)))) rfl (.cons rfl (Sub.int (by(unfold lv;(rw[if_pos (by simpa using h1)];rfl)))) rfl (.s rfl rfl .nil)))) .nil
  ·rintro⟨pre,rest,hx,hp⟩;show J _ _ _ _ [(1,iL t),(21,.snap 1 false ((lv i).map fun s=>[D.str s])),(22,.i (lv i).length),(23,.i pre.length)] [];have hl:=congrArg List.length hx;simp only[List.length_append]at hl;rcases rest with _|⟨x,rest⟩
   ·skip;refine go [] ?_;refine aR (by simp at hl⊢;omega) ?_;refine go [] ?_;exact ah rfl (Sub.int (by exact cT (qg hx hp) rfl))
   ·simp only[List.length_cons]at hl;refine go [] ?_;refine a_ zQ ?_;refine ix zO (bn (fun s=>[D.str s]) hx rfl) ?_;refine oP (ai call170 rfl (GP t x)) ?_;refine br (fun h2=>?_) (fun h2=>?_)
    ·exact ah rfl (Sub.int (by exact iY (qh hx zA)))
    ·refine sd (az zO) ?_;exact nx ⟨pre++[x],rest,by simp[hx],ku hp zA⟩ zS (Le.mk rfl (.s rfl rfl (.cons rfl (Sub.refl _) rfl (.s rfl rfl (.cons rfl (Sub.int zS) rfl .nil)))) .nil)
 ·refine J.loop (ι:=P7 i t) (fun sx=>[(1,iL t),(21,.snap 1 false ((lv i).map fun s=>[D.str s])),(22,.i (lv i).length),(23,.i sx.pre.length)]) (fun sx=>[]) (fun sx=>sx.rest.length) ⟨[],_,rfl,rfl⟩ ?_ ?_
  ·exact Le.mk rfl (.s rfl rfl (.cons rfl (Sub.snap (by(unfold lv;(rw[if_neg (by simpa using h1)];rfl)))) rfl (.cons rfl (Sub.int (by(unfold lv;(rw[if_neg (by simpa using h1)];rfl)))) rfl (.s rfl rfl .nil)))) .nil
  ·rintro⟨pre,rest,hx,hp⟩;show J _ _ _ _ [(1,iL t),(21,.snap 1 false ((lv i).map fun s=>[D.str s])),(22,.i (lv i).length),(23,.i pre.length)] [];have hl:=congrArg List.length hx;simp only[List.length_append]at hl;rcases rest with _|⟨x,rest⟩
   ·skip;refine go [] ?_;refine aR (by simp at hl⊢;omega) ?_;refine go [] ?_;exact ah rfl (Sub.int (by exact cT (qg hx hp) rfl))
   ·simp only[List.length_cons]at hl;refine go [] ?_;refine a_ zQ ?_;refine ix zO (bn (fun s=>[D.str s]) hx rfl) ?_;refine oP (ai call170 rfl (GP t x)) ?_;refine br (fun h3=>?_) (fun h3=>?_)
    ·exact ah rfl (Sub.int (by exact iY (qh hx zA)))
    ·refine sd (az zO) ?_;exact nx ⟨pre++[x],rest,by simp[hx],ku hp zA⟩ zS (Le.mk rfl (.s rfl rfl (.cons rfl (Sub.refl _) rfl (.s rfl rfl (.cons rfl (Sub.int zS) rfl .nil)))) .nil)
structure Wl(l:List bJ)(t:List cp)where
 pre:List bJ
 rest:List bJ
 hx:l=pre++rest
 hp:mI l t=pM t pre rest
theorem Wk(l:List bJ)(t:List cp)(hs:∀x∈l,pj x):Fc Tryz.prog 85 [j0 l,iL t] (.i (mI l t)):=by
 refine Fc.mk' [4] func85 rfl ntmps85 rfl rfl rfl (fun t w=>results_tmp results85 t _ w) ?_;refine J.ej 0 rfl (fun hb=>?_);simp only[List.length_map,aG]at hb;refine go [11] ?_;refine oP (ai call117 rfl (Wr _)) ?_;refine br (fun h1=>?_) (fun h1=>?_)
 ·exact ah rfl (Sub.int (by exact iY h1))
 ·refine br (fun h2=>?_) (fun h2=>?_)
  ·exact ah rfl (Sub.int (by exact cT h1 (iY (by simpa using h2))))
  ·refine J.loop (ι:=Wl l t) (fun sx=>[(1,iL t),(0,j0 l),(17,j0 l),(18,.i l.length),(19,.i sx.pre.length)]) (fun sx=>[]) (fun sx=>sx.rest.length) ⟨[],l,rfl,adN h1 (by simpa using h2)⟩ ?_ ?_
   ·exact Le.mk rfl (.s rfl rfl (.s rfl rfl (.s rfl rfl (.cons rfl (Sub.int zS) rfl (.s rfl rfl .nil))))) .nil
   ·rintro⟨pre,rest,hx,hp⟩;show J _ _ _ _ [(1,iL t),(0,j0 l),(17,j0 l),(18,.i l.length),(19,.i pre.length)] [];have hl:=congrArg List.length hx;simp only[List.length_append]at hl;rcases rest with _|⟨x,rest⟩
    ·skip;refine go [11] ?_;refine aR (by simp at hl⊢;omega) ?_;refine go [11] ?_;exact ah rfl (Sub.int (by exact hp.symm))
    ·simp only[List.length_cons]at hl;refine go [11] ?_;refine a_ zQ ?_;refine ix zO (bn iD hx rfl) ?_;refine oP (ai call118 rfl (adI x (hs x (by rw[hx];simp)))) ?_;refine br (fun h3=>?_) (fun h3=>?_)
     ·exact ah rfl (Sub.int (by exact Iw hp (adG h3) h3))
     ·refine J.bP (Le.gg 6 0 rfl rfl rfl rfl) ?_;refine go [] ?_;refine oP (uC underlying23 sizeOf65 rfl (l:=0) (h:=pre.length) (r:=pre.map iD) (.inl ⟨rfl,rfl⟩) (.inr ⟨_,_,rfl,rfl⟩) zO (by simp[hx]) (by rw[hx];simp)) ?_;refine oP (ai call111 rfl (aa3 pre x.id)) ?_;refine ord ?_;refine br (fun h4=>?_) (fun h4=>?_)
      ·exact ah rfl (Sub.int (by exact Iw hp (adH h3 h4) rfl))
      ·refine oP (ai call119 rfl (aeh x t)) ?_;refine br (fun h5=>?_) (fun h5=>?_)
       ·exact ah rfl (Sub.int (by exact Iw hp (PG h3 h4) h5))
       ·refine go [11] ?_;refine sd (az zO) ?_;exact nx ⟨pre++[x],rest,by simp[hx],adO hp (PG h3 h4) h5⟩ zS (Le.mk rfl (.s rfl rfl (.s rfl rfl (.s rfl rfl (.s rfl rfl (.cons rfl (Sub.int zS) rfl .nil))))) .nil)
theorem Tl(s:Setup)(hs:∀x∈s.insts,pj x):Fc Tryz.prog 41 [.agg (iR s)] (.b (decide (mI s.insts s.qm=0))):=by
 refine Fc.mk' [2] func41 rfl ntmps41 rfl rfl rfl (fun t w=>results_tmp results41 t _ w) ?_;refine go [] ?_;refine oP (ai call85 rfl (Wk s.insts s.qm hs)) ?_;exact ah rfl (Sub.refl _)
end Go.T
namespace Go.T
open Go Go.Proofs Go.Shelf Go.RowKit
@[reducible] def xi:aa:=[65,66,67,68,69,70,71,72,73,74,75,76,77,78,79,80,81,82,83,84,85,86,87,88,89,90]
theorem V4(c:UInt8):xi.contains c=(decide (65≤c.toNat)&&decide (c.toNat≤90)):=by
 have h:∀n:Fin 256,xi.contains (UInt8.ofNat n.1)=(decide (65≤(UInt8.ofNat n.1).toNat)&&decide ((UInt8.ofNat n.1).toNat≤90)):=by decide+kernel
 have:=h ⟨c.toNat,c.toNat_lt⟩;simpa using this
def uN(s:aa):aa:=Lib.trimS s xi
theorem alg(s:aa):decide (uN s=[])=s.all (fun c=>decide (65≤c.toNat)&&decide (c.toNat≤90)):=by
 have hp:(xi.contains ·)=fun c=>decide (65≤c.toNat)&&decide (c.toNat≤90):=funext V4;have key:uN s=[]↔s.all (fun c=>decide (65≤c.toNat)&&decide (c.toNat≤90))=true:=by
  unfold uN Lib.trimS Lib.trimLeftS Lib.trimRightS;rw[hp,CM,List.all_reverse];constructor
  ·intro h;have:=MJ _ s.reverse h;rwa[List.all_reverse]at this
  ·intro h;rw[(CM _ s.reverse).2 (by rwa[List.all_reverse])];rfl
 by_cases h:uN s=[]
 ·rw[key.1 h];simp[h]
 ·have:s.all (fun c=>decide (65≤c.toNat)&&decide (c.toNat≤90))=false:=by
   cases e:s.all (fun c=>decide (65≤c.toNat)&&decide (c.toNat≤90))with
   |false=>rfl
   |true=>exact absurd (key.2 e) h
  rw[this];simp[h]
theorem alf(s:aa):(uN s).length≤s.length:=by
 unfold uN Lib.trimS Lib.trimLeftS Lib.trimRightS;refine Nat.le_trans (CL _ _) ?_;rw[List.length_reverse];refine Nat.le_trans (CL _ _) zS
theorem alh(s:aa):Fc Tryz.prog 180 [.str s,.str xi] (.str (uN s)):=.o9 fun w O ρ vals _ hv=>by
 obtain⟨rfl,hb,_⟩:=hv.BY;refine(Any.strings_Trim_laid Tryz.Qb (by kernel_rfl) ⟨s.toArray⟩ ⟨xi.toArray⟩ w (by simp[ByteArray.size];unfold aG at hb;omega) zD (ascii_of_all zD)).mono ?_;rintro e w' ⟨rfl,hw⟩;refine⟨_,rfl,?_,ff.below hw⟩;have:=alf s;simp only[V];exact⟨rfl,by omega⟩
end Go.T
namespace Go.T
open Go
def Dq(s p:aa):Bool:=decide ((p.length:Int)≤s.length)&&decide (s.take p.length=p)
def jG(s p:aa):aa:=if Dq s p=true then s.drop p.length else s
theorem adX(s:aa):(decide ((s.length:Int)=3)&&decide (uN s=[]))=gA s:=by
 rw[alg];unfold gA;by_cases h:s.length=3
 ·simp[h]
 ·have:¬((s.length:Int)=3):=by omega
  simp[h,this]
def jq{α:Type}[DecidableEq α](a b:List α):Bool:=decide (a=b)
theorem CS{α:Type}{a b:List α}[DecidableEq α](h:a.length≠b.length):false=jq a b:=by
 unfold jq;rw[decide_eq_false];intro e;exact h (congrArg List.length e)
theorem CT{α:Type}{a b p q:List α}{x y:α}{r t:List α}[DecidableEq α](h:a=p++x::r)(h2:b=q++y::t)(hl:q.length=p.length)(hn:x≠y):false=jq a b:=by
 unfold jq;rw[decide_eq_false];rintro e;rw[h,h2]at e;have:=List.append_inj e hl.symm;exact hn (List.cons.inj this.2).1
theorem CR{α:Type}{a b p q:List α}[DecidableEq α](h:a=p++[])(h2:b=q++[])(hp:p=q):true=jq a b:=by
 subst h;subst h2;subst hp;simp[jq]
open Go.Proofs Go.Proofs.Tryz
set_option maxRecDepth 20000
theorem aco(s p:aa):Fc Tryz.prog 314 [.str s,.str p] (.b (Dq s p)):=by
 refine Fc.mk' [4] func314 rfl ntmps314 rfl rfl rfl (fun t w=>results_tmp results314 t _ w) ?_;refine J.l7 0 rfl (fun hb=>?_);simp only[aG]at hb;refine go [] ?_;refine gP (fun hg=>rm underlying9 rfl (l:=0) (h:=p.length) (r:=s.take p.length) (.inl ⟨rfl,rfl⟩) (.inr ⟨_,_,rfl,rfl⟩) zO (by simp[lW]at hg;omega) zS) ?_;exact ah rfl (Sub.refl _)
theorem alm(s p:aa):Fc Tryz.prog 272 [.str s,.str p] (.str (jG s p)):=by
 refine Fc.mk' [4] func272 rfl ntmps272 rfl rfl rfl (fun t w=>results_tmp results272 t _ w) ?_;refine go [] ?_;refine oP (ai call314 rfl (aco _ _)) ?_;refine br (fun h1=>?_) (fun h1=>?_)
 ·refine oP (rm underlying9 rfl (l:=p.length) (h:=s.length) (r:=s.drop p.length) (.inr ⟨_,_,rfl,rfl⟩) (.inl ⟨rfl,rfl⟩) (by simp[Dq]at h1;omega) zO (by rw[List.take_of_length_le];simp)) ?_;exact ah rfl (Sub.str (by unfold jG;rw[if_pos h1]))
 ·exact ah rfl (Sub.str (by unfold jG;rw[if_neg (by rw[h1];simp)]))
theorem aln(s p:aa):Fc Tryz.prog 225 [.str s,.str p] (.str (jG s p)):=by
 refine Fc.mk' [4] func225 rfl ntmps225 rfl rfl rfl (fun t w=>results_tmp results225 t _ w) ?_;refine go [] ?_;refine oP (ai call272 rfl (alm _ _)) ?_;exact ah rfl (Sub.refl _)
theorem Na(a:aa):Fc Tryz.prog 178 [.str a] (.i (jG a [45]).length):=by
 refine Fc.mk' [2] func178 rfl ntmps178 rfl rfl rfl (fun t w=>results_tmp results178 t _ w) ?_;refine go [] ?_;refine oP (ai call225 rfl (aln _ _)) ?_;exact ah rfl (Sub.refl _)
theorem E_(a:aa):Fc Tryz.prog 184 [.str a] (.agg (cG ⟨a,[]⟩)):=by
 refine Fc.iI func184 rfl ntmps184 rfl rfl rfl ?_;refine go [99999] ?_;refine J.ret (?_);exact Rd.cA results184 isAgg35 sizeOf35 rfl rfl rfl (Sub.agg (.r (.r .nil)))
theorem af4(s:aa):Fc Tryz.prog 124 [.str s] (.i (if(!isName s)=true then 23 else 0)):=by
 refine Fc.mk' [2] func124 rfl ntmps124 rfl rfl rfl (fun t w=>results_tmp results124 t _ w) ?_;refine go [] ?_;refine oP (ai call86 rfl (yz _)) ?_;refine br (fun h1=>?_) (fun h1=>?_)
 ·exact ah rfl (Sub.int (by exact iY h1))
 ·exact ah rfl (Sub.int (by exact cT h1 rfl))
theorem DP(s:aa):Fc Tryz.prog 125 [.str s] (.b (gA s)):=by
 refine Fc.mk' [2] func125 rfl ntmps125 rfl rfl rfl (fun t w=>results_tmp results125 t _ w) ?_;refine go [] ?_;refine gP (fun hg=>ai call180 rfl (alh _)) ?_;exact ah rfl (Sub.bool (by exact adX s))
theorem aiZ(x p:cX):Fc Tryz.prog 183 [.agg (iQ x),.aY (iQ p)] (.b (decide (x.fc=p.fc))):=by
 refine Fc.mk' [3] func183 rfl ntmps183 rfl rfl rfl (fun t w=>results_tmp results183 t _ w) ?_;refine go [] ?_;exact ah rfl (Sub.refl _)
structure adz(l:List cX)(P:cX→Bool)where
 pre:List cX
 rest:List cX
 hx:l=pre++rest
 hp:pre.any P=false
theorem ady(l:List cX)(f:FuncId)(b8:List D)(dA:D.bG.eG b8=true)(P:cX→Bool)(gh:∀(args:Array Value)(w:World),(callFunc f args).run Tryz.prog w=.ok (.enter f args) w)(hP:∀x∈l,Fc Tryz.prog f (.agg (iQ x)::b8) (.b (P x))):Fc Tryz.prog 236 [mE l,.fn (.func f) [] b8] (.i (ja P l)):=by
 refine Fc.mk' [4] func236 rfl ntmps236 rfl (by simp[D.bG,D.bG.eG,dA]) rfl (fun t w=>results_tmp results236 t _ w) ?_;refine J.ej 0 rfl (fun hb=>?_);simp only[List.length_map,aG]at hb;refine go [] ?_;refine J.loop (ι:=adz l P) (fun sx=>[(0,mE l),(1,.fn (.func f) [] b8),(6,mE l),(7,.i l.length),(8,.i sx.pre.length)]) (fun sx=>[]) (fun sx=>sx.rest.length) ⟨[],l,rfl,rfl⟩ ?_ ?_
 ·exact Le.mk rfl (.s rfl rfl (.cons rfl (Sub.refl _) (rf dA) (.s rfl rfl (.cons rfl (Sub.int zS) rfl (.s rfl rfl .nil))))) .nil
 ·rintro⟨pre,rest,hx,hp⟩;show J _ _ _ _ [(0,mE l),(1,.fn (.func f) [] b8),(6,mE l),(7,.i l.length),(8,.i pre.length)] [];have hl:=congrArg List.length hx;simp only[List.length_append]at hl;rcases rest with _|⟨x,rest⟩
  ·skip;refine go [] ?_;refine aR (by simp at hl⊢;omega) ?_;refine go [] ?_;exact ah rfl (Sub.int (by exact vy hx hp))
  ·simp only[List.length_cons]at hl;refine go [] ?_;refine a_ zQ ?_;refine ix zO (bn iQ hx rfl) ?_;refine oP (dX gh rfl rfl (hP x (by rw[hx];simp))) ?_;refine br (fun h1=>?_) (fun h1=>?_)
   ·exact ah rfl (Sub.int (by exact tG hx hp h1))
   ·refine sd (az zO) ?_;exact nx ⟨pre++[x],rest,by simp[hx],ku hp h1⟩ zS (Le.mk rfl (.s rfl rfl (.cons rfl (Sub.refl _) (rf dA) (.s rfl rfl (.s rfl rfl (.cons rfl (Sub.int zS) rfl .nil))))) .nil)
theorem Xf(l:List cX)(f:FuncId)(b8:List D)(dA:D.bG.eG b8=true)(P:cX→Bool)(gh:∀(args:Array Value)(w:World),(callFunc f args).run Tryz.prog w=.ok (.enter f args) w)(hP:∀x∈l,Fc Tryz.prog f (.agg (iQ x)::b8) (.b (P x))):Fc Tryz.prog 182 [mE l,.fn (.func f) [] b8] (.b (l.any P)):=by
 refine Fc.mk' [4] func182 rfl ntmps182 rfl (by simp[D.bG,D.bG.eG,dA]) rfl (fun t w=>results_tmp results182 t _ w) ?_;refine go [] ?_;refine oP (ai call236 rfl (ady l f b8 dA P gh hP)) ?_;exact ah rfl (Sub.bool (by exact vx P l))
end Go.T
namespace Go.T
open Go
variable[bV]
theorem K9{w:World}{O:Nat→Prop}{ρ:aA}:∀{ds:List D}{vs:List Value}{i:Nat}{d:D},Vs w O ρ ds vs→ds[i]?=some d→∃v,vs[i]?=some v∧V w O ρ d v
 |[],vs,i,d,_,h=>by simp at h
 |e::ds,vs,0,d,h,hd=>by
  simp only[Vs]at h;obtain⟨u,us,rfl,h1,_⟩:=h;simp at hd;subst hd;exact⟨u,by simp,h1⟩
 |e::ds,vs,i+1,d,h,hd=>by
  simp only[Vs]at h;obtain⟨u,us,rfl,_,h2⟩:=h;obtain⟨v,h3,h4⟩:=K9 h2 (by simpa using hd);exact⟨v,by simpa using h3,h4⟩
theorem ahT{P:Program}{env:Env}{dst:Option Tmp}{ty:TypeId}{pos:String}{ar:Array Edge}{g:Option (Nat×Bool)}{t e:TypeId}{x y:Operand}{n:Nat}{k:IntKind}{i:Int}{cs:List D}{r:D}(hu:P.underlying t=some (.array n e))(ha:∀w,(isAgg e).run P w=.ok false w)(hs:∀w,(sizeOf e).run P w=.ok 1 w)
  (hx:env.op x=some (.agg cs))(hy:env.op y=some (.raw (.int k i)))(h0:0≤i)(hi:i<n)(hr:cs[i.toNat]?=some r)(U:ae):
  aq P ⟨dst,.index t x y,ty,pos,ar,g⟩ env U r U:=
 .val fun O ρ a w _ hv=>by
  have h1:=hv x (by simp[Op.operands]) _ hx;have h2:=hv y (by simp[Op.operands]) _ hy;simp only[V]at h1 h2;obtain⟨vs,e1,h3⟩:=h1;obtain⟨v,h4,h5⟩:=K9 h3 hr;have h6:vs[i.toNat]?=some v:=by simpa using h4
  refine⟨v,?_,h5⟩;simp[execOp,Instr.index,h2,asIntOf,bY hu,e1,h0,hi,hs,part,ha,h6]
end Go.T
namespace Go.T
open Go
theorem iT{α:Type}{b:Bool}{x y:α}(h:b=true):x=if b=true then x else y:=by rw[if_pos h]
theorem iF{α:Type}{b:Bool}{x y z:α}(h:b=false)(k:z=y):z=if b=true then x else y:=by rw[if_neg (by rw[h];simp)];exact k
def eF(pos part:Bool)(f:aP):Int:=sj pos part f (DZ pos part f) (decide (40<((jG f.num [45]).length:Int))||decide (40<((jG f.den [45]).length:Int)))
def iM(f:Fact)(n:Int):aP:=
 if n=4 then⟨f.c_,[]⟩else if n=5 then⟨f.mH,[]⟩else if n=6 then⟨f.mP,[]⟩else if n=7 then f.du else if n=8 then f.ratio else if n=9 then f.share else dH
@[reducible] def Z0(f:Fact):List D:=[.str [],.str [],.str [],.str [],.str [],.str [],.str [],.str [],.str f.c_,.str [],.str f.mH,.str [],.str f.mP,.str [],.str f.du.num,.str f.du.den,.str f.ratio.num,.str f.ratio.den,.str f.share.num,.str f.share.den,.str [],.str [],.str [],.str [],.str [],.str []]
theorem alL{f:Fact}{n:Int}(h0:0≤n)(h1:n<13):((Z0 f).drop (n.toNat*2)).take 2=cG (iM f n):=by
 have:n=0∨n=1∨n=2∨n=3∨n=4∨n=5∨n=6∨n=7∨n=8∨n=9∨n=10∨n=11∨n=12:=by omega
 rcases this with rfl|rfl|rfl|rfl|rfl|rfl|rfl|rfl|rfl|rfl|rfl|rfl|rfl<;>rfl
theorem C6(f g:aP):decide ([f.num,f.den]=[g.num,g.den])=decide (f=g):=by
 rw[decide_eq_decide];cases f;cases g;simp
def cS(f:Fact)(n:Int):Bool:=
 if decide (n=0)=true then decide (f.eY=[])else if decide (n=1)=true then decide (f.other=[])else if decide (n=2)=true then decide (f.cur=[])else if decide (n=3)=true then decide (f.target=[])
 else if decide (n=10)=true then decide ((f.fe.length:Int)=0)else if decide (n=11)=true then decide ((f.opts.length:Int)=0)else if decide (n=12)=true then decide (f.choice=0)else decide (iM f n=dH)
theorem ahp{x y:cX}(h:(!decide ([x.fc,x.c_]=[y.fc,y.c_]))=false):x=y:=by
 cases x;cases y;simpa using h
theorem ahq{x y:cX}(h:(!decide ([x.fc,x.c_]=[y.fc,y.c_]))=true):¬x=y:=by
 rintro rfl;simp at h
@[reducible] def sJ(x:cR):List aa:=[x.other,x.ratio.num,x.ratio.den,x.du.num,x.du.den,x.value.num,x.value.den]
theorem agW{x y:cR}(h:(!decide (sJ x=sJ y))=false):x=y:=by
 rcases x with⟨a,⟨b,c⟩,⟨d,e⟩,⟨f,g⟩⟩;rcases y with⟨a',⟨b',c'⟩,⟨d',e'⟩,⟨f',g'⟩⟩;simp[sJ]at h;obtain⟨rfl,rfl,rfl,rfl,rfl,rfl,rfl⟩:=h;rfl
theorem agX{x y:cR}(h:(!decide (sJ x=sJ y))=true):¬x=y:=by
 rintro rfl;simp at h
theorem Cz{α:Type}{l:List α}{n:Nat}(h:l.length=n+1):∃y r,l=y::r:=by
 cases l with
 |nil=>simp at h
 |cons y r=>exact⟨y,r,rfl⟩
def wX(a b:Fact):Bool:=decide (a.key=b.key)&&decide (a.ib=b.ib)&&(a.cancelled==b.cancelled)&&decide (a.day=b.day)&&decide (a.kind=b.kind)&&decide (a.eY=b.eY)&&decide (a.other=b.other)&&decide (a.cur=b.cur)&&decide (a.target=b.target)
 &&decide (a.c_=b.c_)&&decide (a.mH=b.mH)&&decide (a.mP=b.mP)&&decide ([a.du.num,a.du.den]=[b.du.num,b.du.den])&&decide ([a.ratio.num,a.ratio.den]=[b.ratio.num,b.ratio.den])&&decide ([a.share.num,a.share.den]=[b.share.num,b.share.den])
 &&jq a.fe b.fe&&jq a.opts b.opts&&decide (a.choice=b.choice)
open Go.Proofs Go.Proofs.Tryz
set_option maxRecDepth 20000
theorem agN(a b c d:aa)(ha:a.length≤1000)(hb:b.length≤1000)(hc:c.length≤1000)(hd:d.length≤1000):Fc Tryz.prog 307 [.str a,.str b,.str c,.str d,.aY [.fn (.func 305) [] []]] (.bf [.str (ofInt (val a*val d-val c*val b)),.str (ofInt (val b*val d))]):=by
 refine Fc.mk' [9,10] func307 rfl ntmps307 rfl rfl rfl (fun t w=>results_tmp2 results307 t _ w) ?_;have h1:=Ea a d;have h2:=Ea c b;have h3:=Ea b d;refine go [] ?_;refine oP (dX call305 rfl rfl (I_ _ _ zO zO)) ?_;refine oP (dX call305 rfl rfl (I_ _ _ zO zO)) ?_;refine oP (ai call308 rfl (ajN _ _ zO zO)) ?_;refine oP (dX call305 rfl rfl (I_ _ _ zO zO)) ?_;refine ord ?_;exact gS rfl rfl (Sub.str (by rw[f_,f_])) (Sub.refl _)
theorem agP:Fc Tryz.prog 270 [] (.agg [.fn (.func 306) [] [.aY [.fn (.func 305) [] []]],.fn (.func 307) [] [.aY [.fn (.func 305) [] []]],.fn (.func 309) [] [.aY [.fn (.func 305) [] []]],.fn (.func 310) [] [.aY [.fn (.func 305) [] []]]]):=by
 refine Fc.iI func270 rfl ntmps270 rfl rfl rfl ?_;refine go [2,99999] ?_;refine J.bP (Le.gg 1 1 rfl rfl rfl rfl) ?_;refine go [99999] ?_;refine J.ret (?_);exact Rd.cA results270 isAgg279 sizeOf279 rfl rfl rfl (Sub.agg (.r (.cons (Sub.refl _) (.r (.r .nil)))))
theorem Vp(f g:aP)(hf:f.num.length≤900∧f.den.length≤900)(hg:g.num.length≤900∧g.den.length≤900):Fc Tryz.prog 269 [.fn (.func 307) [] [.aY [.fn (.func 305) [] []]],.agg (cG f),.agg (cG g)] (.agg (cG (wZ f g))):=by
 refine Fc.iI func269 rfl ntmps269 rfl rfl rfl ?_;obtain⟨hl1,bL,OU,OV⟩:=Ky hf hg zD;have hm1:=zm (yx (bB f).1 (bB g).2) (k:=1800) zO;have vT:=zm (yx (bB g).1 (bB f).2) (k:=1800) zO;have hs:=agD hm1 vT;have H2:=Ea (bB f).2 (bB g).2;refine go [99999] ?_;refine oP (ai call222 rfl (Et f zO)) ?_;refine oP (ai call222 rfl (Et g zO)) ?_;refine oP (dX call307 rfl rfl (agN _ _ _ _ zO zO zO zO)) ?_;refine oP (ai call224 rfl (IU _ _ zO zO ahB)) ?_;refine J.ret (?_);exact Rd.cA results269 isAgg35 sizeOf35 rfl rfl rfl (Sub.agg (.cons (Sub.str (by rw[f_,f_];rfl)) (.cons (Sub.str (by rw[f_,f_];rfl)) .nil)))
theorem abe(f g:aP)(hf:f.num.length≤900∧f.den.length≤900)(hg:g.num.length≤900∧g.den.length≤900):Fc Tryz.prog 223 [.agg (cG f),.agg (cG g)] (.agg (cG (wZ f g))):=by
 refine Fc.iI func223 rfl ntmps223 rfl rfl rfl ?_;refine go [99999] ?_;refine oP (ai call270 rfl agP) ?_;refine oP (ahT (r:=.fn (.func 307) [] [.aY [.fn (.func 305) [] []]]) underlying279 isAgg278 sizeOf278 rfl rfl zD zD rfl) ?_;refine oP (ai call269 rfl (Vp _ _ zA zA)) ?_;refine ord ?_;refine J.ret (?_);exact Rd.cA results223 isAgg35 sizeOf35 rfl rfl rfl (Sub.agg (.r (.r .nil)))
theorem M'(f g:aP)(hf:f.num.length≤900∧f.den.length≤900)(hg:g.num.length≤900∧g.den.length≤900):Fc Tryz.prog 176 [.agg (cG f),.agg (cG g)] (.i (ql f g)):=by
 refine Fc.mk' [4] func176 rfl ntmps176 rfl rfl rfl (fun t w=>results_tmp results176 t _ w) ?_;have hl:=ajL (k:=900) zD hf hg;have hp:=yR (wZ f g);refine go [] ?_;refine oP (ai call223 rfl (abe _ _ zA zA)) ?_;refine oP (ai call222 rfl (Et _ zO)) ?_;refine oP (ai call186 rfl (zy _ [] (by rw[hp];omega) zS)) ?_;exact ah rfl (Sub.int (by rw[hp];rfl))
theorem Jm(f:aP)(pos part:Bool)(hs:lk f):Fc Tryz.prog 175 [.agg (cG f),.aY [.b pos],.aY [.b part]] (.i (eF pos part f)):=by
 refine Fc.mk' [4] func175 rfl ntmps175 rfl rfl rfl (fun t w=>results_tmp results175 t _ w) ?_;have hf:f.num.length≤900∧f.den.length≤900:=⟨Nat.le_trans hs.1 zD,Nat.le_trans hs.2 zD⟩;refine go [] ?_;refine oP (ai call176 rfl (M' f dH hf zD)) ?_;refine oP (ai call177 rfl (NG _ zA)) ?_;refine br (fun h1=>?_) (fun h1=>?_)
 ·exact ah rfl (Sub.int (by unfold eF sj;exact iY h1))
 ·refine oP (ai call178 rfl (Na _)) ?_;refine gP (fun hg=>ai call178 rfl (Na _)) ?_;refine br (fun h2=>?_) (fun h2=>?_)
  ·exact ah rfl (Sub.int (by unfold eF sj;exact cT h1 (iY h2)))
  ·refine gP (fun hg=>ai call179 rfl (aa8 [49] zD)) ?_;refine gP (fun hg=>ai call176 rfl (M' f (cI (val [49]) (val [49])) hf (QK (k:=2) zD zD zD|>.imp (Nat.le_trans · zD) (Nat.le_trans · zD)))) ?_;refine ord ?_;refine br (fun h3=>?_) (fun h3=>?_)
   ·exact ah rfl (Sub.int (by unfold eF sj;exact cT h1 (cT h2 (iY h3))))
   ·exact ah rfl (Sub.int (by unfold eF sj;exact cT h1 (cT h2 (cT h3 rfl))))
theorem zr(a b:Bool):Fc Tryz.prog 120 [.b a,.b b] (.fn (.func 175) [] [.aY [.b a],.aY [.b b]]):=by
 refine Fc.mk' [4] func120 rfl ntmps120 rfl rfl rfl (fun t w=>results_tmp results120 t _ w) ?_;refine go [1] ?_;refine J.bP (Le.gg 2 0 rfl rfl rfl rfl) ?_;refine J.bP (Le.gg 3 1 rfl rfl rfl rfl) ?_;refine go [] ?_;exact ah rfl (by exact Sub.refl _)
end Go.T
namespace Go.T
open Go
variable[bV]
variable{P:Program} {env:Env} {dst:Option Tmp} {ty:TypeId} {pos:String} {ar:Array Edge} {g:Option (Nat×Bool)}
inductive th(P:Program):List Field→Nat→Nat→Prop
 |nil (k:Nat):th P [] k k
 |str {f:Field} {fs:List Field} {k n:Nat} (hn:(f.name== "_")=false) (hu:P.underlying f.type=some .string) (ha:∀w,(isAgg f.type).run P w=.ok false w) (ho:f.offset=k) (r:th P fs (k+1) n):th P (f::fs) k n
 |sub {f:Field} {fs gs:List Field} {k n m:Nat} (hn:(f.name== "_")=false) (hu:P.underlying f.type=some (.struct gs.toArray)) (hp:P.stoodInHeld f.type=false) (ha:∀w,(isAgg f.type).run P w=.ok true w) (hs:∀w,(sizeOf f.type).run P w=.ok m w) (hm:gs.length=m) (hg:tg P gs 0) (ho:f.offset=k) (r:th P fs (k+m) n):th P (f::fs) k n
theorem Z9{d:Nat}{xs ys:List aa}{fs:List Field}{k n:Nat}(h:th P fs k n)(hx:n=xs.length)(hy:n=ys.length)(w:World):
  k≤n∧(Op.eqFields (d+2) (xs.map fun s=>Value.string ⟨s.toArray⟩).toArray (ys.map fun s=>Value.string ⟨s.toArray⟩).toArray fs).run P w=.ok (decide (xs.drop k=ys.drop k)) w:=by
 induction h with
 |nil k=>
  rw[List.drop_of_length_le zO,List.drop_of_length_le zO];simp[Op.eqFields]
 |@str f fs k n hn hu ha ho r ih=>
  obtain⟨hk,ih⟩:=ih hx hy;have h1:k<xs.length:=by omega
  have h2:k<ys.length:=by omega
  have vI:decide (xs.drop k=ys.drop k)=(decide (xs[k]=ys[k])&&decide (xs.drop (k+1)=ys.drop (k+1))):=by
   rw[List.drop_eq_getElem_cons h1,List.drop_eq_getElem_cons h2];simp only[List.cons.injEq,Bool.decide_and]
  refine⟨by omega,?_⟩;rw[vI];have qF:f.name≠ "_":=by simpa using hn
  simp only[Op.eqFields,qF,ne_eq,not_false_eq_true,if_true,Sem.run_bind,part,ha,Result.andThen_ok,Bool.false_eq_true,if_false,ho];simp only[List.getElem?_toArray,List.getElem?_map,List.getElem?_eq_getElem h1,List.getElem?_eq_getElem h2,Option.map_some,Sem.run_pure,Result.andThen_ok,run_equalIn_string _ _ _ _ _ hu,uL];by_cases e:xs[k]=ys[k]
  ·simp only[e,BEq.rfl,Bool.not_true,Bool.false_eq_true,if_false,decide_true,Bool.true_and];exact ih
  ·have:(xs[k]==ys[k])=false:=by simpa using e
   simp only[this,Bool.not_false,if_true,Sem.run_pure,e,decide_false,Bool.false_and]
 |@sub f fs gs k n m hn hu hp ha hs hm hg ho r ih=>
  obtain⟨hk,ih⟩:=ih hx hy;refine⟨by omega,?_⟩;have qF:f.name≠ "_":=by simpa using hn
  have ju:P.fieldsOf f.type=gs.toArray:=by simp[Program.fieldsOf,hu]
  have he:∀zs:List aa,(zs.map fun s=>Value.string ⟨s.toArray⟩).toArray.extract k (k+m)=(((zs.drop k).take m).map fun s=>Value.string ⟨s.toArray⟩).toArray:=by
   intro zs;simp[List.map_take,List.map_drop]
  have h3:=fun us vs=>run_equalIn_struct (P:=P) w (d+1) f.type us vs (by rw[ju];exact hu) hp;have h6:=MU (d:=d) hg (xs:=(xs.drop k).take m) (ys:=(ys.drop k).take m) zQ zQ w;rw[List.drop_zero,List.drop_zero]at h6;have vI:decide (xs.drop k=ys.drop k)=(decide ((xs.drop k).take m=(ys.drop k).take m)&&decide (xs.drop (k+m)=ys.drop (k+m))):=by
   rw[←Bool.decide_and,decide_eq_decide];constructor
   ·intro e;rw[e];exact⟨rfl,by rw[←List.drop_drop,←List.drop_drop,e]⟩
   ·rintro⟨e1,e2⟩;rw[←List.take_append_drop m (xs.drop k),←List.take_append_drop m (ys.drop k),e1,List.drop_drop,List.drop_drop,e2]
  rw[vI];rw[ju]at h3;simp only[Op.eqFields,qF,ne_eq,not_false_eq_true,if_true,Sem.run_bind,part,ha,hs,Result.andThen_ok,ho,Sem.run_pure,he];rw[h3,h6];simp only[Result.andThen_ok];by_cases e:(xs.drop k).take m=(ys.drop k).take m
  ·simp only[e,Bool.not_true,Bool.false_eq_true,if_false,decide_true,Bool.true_and];exact ih
  ·simp only[e,decide_false,Bool.not_false,if_true,Sem.run_pure,Bool.false_and]
theorem ahK{op:BinOp}{t t':TypeId}{x y:Operand}{xs ys:List aa}{fs:List Field}{n:Nat}(x1:op=.eql∨op=.neq)(hu:P.underlying t=some (.struct fs.toArray))(hp:P.stoodInHeld t=false)(hg:P.eqGuardType P.depth t=false)(hf:th P fs 0 n)(tR:n=xs.length)(tS:n=ys.length)
  (hx:env.op x=some (.agg (xs.map D.str)))(hy:env.op y=some (.agg (ys.map D.str)))(U:ae):aq P ⟨dst,.binOp op t x y t',ty,pos,ar,g⟩ env U (.raw (.bool (if op=.eql then decide (xs=ys)else !decide (xs=ys)))) U:=
 .val fun _ _ a w _ hv=>by
  have h1:=hv x (by simp[Op.operands]) _ hx;have h2:=hv y (by simp[Op.operands]) _ hy;simp only[V]at h1 h2;obtain⟨us,e1,h1⟩:=h1;obtain⟨vs,e2,h2⟩:=h2;have h1:=zk h1;have h2:=zk h2;have ju:P.fieldsOf t=fs.toArray:=by simp[Program.fieldsOf,hu]
  have h3:=run_equalIn_struct (P:=P) w 9999 t us vs (by rw[ju];exact hu) hp;have h4:us=(xs.map fun s=>Value.string ⟨s.toArray⟩).toArray:=by rw[←h1]
  have h5:vs=(ys.map fun s=>Value.string ⟨s.toArray⟩).toArray:=by rw[←h2]
  have h6:=(Z9 (d:=9997) hf (xs:=xs) (ys:=ys) tR tS w).2;rw[ju]at h3;simp only[h4,h5]at h3 e1 e2;simp only[List.drop_zero]at h6;refine⟨.bool (if op=.eql then decide (xs=ys)else !decide (xs=ys)),?_,by simp only[V]⟩;rcases x1 with rfl|rfl
  ·simp[execOp,e1,e2,run_eqGuard_agg _ _ _ _ _ _ _ hg,run_eql_struct,h3,h6]
  ·simp[execOp,e1,e2,run_eqGuard_agg _ _ _ _ _ _ _ hg,run_neq_struct,h3,h6]
theorem SU{t t':TypeId}{x y:Operand}{xs ys:List aa}{fs:List Field}{n:Nat}{ds es:List D}(hu:P.underlying t=some (.struct fs.toArray))(hp:P.stoodInHeld t=false)(hg:P.eqGuardType P.depth t=false)(hf:th P fs 0 n)(tR:n=xs.length)(tS:n=ys.length)
  (hx:env.op x=some (.agg ds))(hy:env.op y=some (.agg es))(hd:ds=xs.map D.str)(he:es=ys.map D.str)(U:ae):aq P ⟨dst,.binOp .neq t x y t',ty,pos,ar,g⟩ env U (.raw (.bool (!decide (xs=ys)))) U:=by
 subst hd;subst he;exact ahK (.inr rfl) hu hp hg hf tR tS hx hy U
def tX:Value→Bool
 |.nilIface=>true
 |_=>false
theorem ahP{t t':TypeId}{x:Operand}{v:Value}{ms:Array (String×TypeId)}(hu:P.underlying t=some (.interface ms))(hx:env.op x=some (.raw v))(r4:v=.nilIface∨∃te pe,v=.iface te pe)(U:ae):
  aq P ⟨dst,.binOp .eql t x (.const .nilIface) t',ty,pos,ar,g⟩ env U (.raw (.bool (tX v))) U:=
 .val fun _ _ a w _ hv=>by
  have h1:=hv x (by simp[Op.operands]) _ hx;simp only[V]at h1;refine⟨.bool (tX v),?_,by simp only[V]⟩;have e2:a.eval (.const .nilIface)=.nilIface:=rfl;rcases r4 with rfl|⟨te,pe,rfl⟩
  ·have h3:(eqGuard .eql t x (.const .nilIface) .nilIface .nilIface).run P w=.ok () w:=by cases x<;>rfl
   have h:∀d:Nat,(Op.equalIn (d+1) t .nilIface .nilIface).run P w=.ok true w:=fun d=>by simp[Op.equalIn,run_underlying hu]
   have h4:(binOp .eql t .nilIface .nilIface).run P w=.ok (.bool true) w:=by
    show((Op.equalIn (9999+1) t .nilIface .nilIface).bind fun b=>Sem.pure (Value.bool b)).run P w=_;rw[Sem.run_bind',h];rfl
   simp only[execOp,h1,e2,tX];rw[Sem.run_bind,Sem.run_bind,h3];simp only[Result.andThen_ok];rw[h4];rfl
  ·have h3:(eqGuard .eql t x (.const .nilIface) (.iface te pe) .nilIface).run P w=.ok () w:=rfl;have h:∀d:Nat,(Op.equalIn (d+1) t (.iface te pe) .nilIface).run P w=.ok false w:=fun d=>by simp[Op.equalIn,run_underlying hu]
   have h4:(binOp .eql t (.iface te pe) .nilIface).run P w=.ok (.bool false) w:=by
    show((Op.equalIn (9999+1) t (.iface te pe) .nilIface).bind fun b=>Sem.pure (Value.bool b)).run P w=_;rw[Sem.run_bind',h];rfl
   simp only[execOp,h1,e2,tX];rw[Sem.run_bind,Sem.run_bind,h3];simp only[Result.andThen_ok];rw[h4];rfl
end Go.T
namespace Go.T
open Go Go.Proofs Go.Shelf Go.RowKit
def FJ(s:aa)(p:Int×Value):Prop:=(Lib.atoiAll s=.ok p.1∧p.2=.nilIface)∨((∀v,Lib.atoiAll s≠.ok v)∧∃te pe,p.2=.iface te pe)
theorem Vt{s:aa}{p:Int×Value}(h:FJ s p):p.2=.nilIface∨∃te pe,p.2=.iface te pe:=h.imp (·.2) (·.2)
theorem MZ{w:World}{O:Nat→Prop}(h:Gl w O){g:Nat}(hg:g∈GA):∃te pe,w.cell? ⟨g,0,none⟩=some (.iface te pe):=by
 obtain⟨⟨te,pe,T,fr,h1⟩,_⟩:=h.2 g hg;exact⟨te,pe,by simp[World.cell?,h1]⟩
theorem ad6(w:World)(t:ByteArray):ff w (Lib.bytesWorld w l8 t):=ff.below (Lib.bytesWorld_below w l8 t)
theorem Vu(s:aa)(hs:s.length≤1000):xa Tryz.prog 234 [.str s] (FJ s) (fun p=>.bf [.i p.1,.raw p.2]):=⟨fun w O ρ vals hO hg hv=>by
 simp only[Vs,V]at hv;obtain⟨_,_,rfl,⟨rfl,_⟩,rfl⟩:=hv;have be:(⟨s.toArray⟩:ByteArray).size=s.length:=by simp[ByteArray.size]
 have hl:(⟨s.toArray⟩:ByteArray).data.toList=s:=by simp
 cases e:Lib.atoiAll s with
 |ok v=>
  refine Calls.mono (Tryz.strconv_Atoi_ok ⟨s.toArray⟩ zO v (by rw[hl];exact e) w) ?_;rintro e' w' ⟨rfl,hw⟩;refine⟨(v,.nilIface),_,.inl ⟨e,rfl⟩,rfl,by simp[V,Vs,D.i],?_⟩;rcases hw with rfl|⟨t,rfl⟩
  ·exact⟨Nat.le_refl _,fun _ _=>rfl,rfl,rfl,gv.eq rfl rfl⟩
  ·exact ad6 w t
 |range=>
  obtain⟨te,pe,hc⟩:=MZ hg (g:=4) zD;refine Calls.mono (Tryz.strconv_Atoi_range ⟨s.toArray⟩ zO (by rw[hl];exact e) _ w hc (.inr ⟨_,_,rfl⟩)) ?_;rintro e' w' ⟨N,rfl,_,_,hb⟩;exact⟨(Lib.atoiSat s,.iface 307 (.pointer (some ⟨N,0,none⟩))),_,.inr ⟨fun v h=>(by rw[e]at h;cases h),_,_,rfl⟩,rfl,by simp[V,Vs,D.i,hl],ff.below hb⟩
 |_=>
  obtain⟨te,pe,hc⟩:=MZ hg (g:=3) zD;refine Calls.mono (Any.strconv_Atoi_syntax Tryz.IE ⟨s.toArray⟩ zO (by rw[hl];exact e) _ w hc (.inr ⟨_,_,rfl⟩)) ?_;rintro e' w' ⟨N,rfl,_,_,hb⟩;exact⟨(0,.iface 307 (.pointer (some ⟨N,0,none⟩))),_,.inr ⟨fun v h=>(by rw[e]at h;cases h),_,_,rfl⟩,rfl,by simp[V,Vs,D.i];rfl,ff.below hb⟩⟩
theorem ad4(n:Int)(h0:0≤n)(h1:n≤9999):Fc Tryz.prog 235 [.i n] (.str (Lib.itoa n)):=.o9 fun w O ρ vals hg hv=>by
 simp only[Vs,V]at hv;obtain⟨_,_,rfl,rfl,rfl⟩:=hv;refine(Tryz.strconv_Itoa n zO zO w (TV hg)).mono ?_;rintro e w' ⟨rfl,k,os,rfl⟩;refine⟨_,rfl,?_,PX w k os⟩;simp only[V];have:(Lib.itoa n).length≤20:=by
  unfold Lib.itoa;rw[if_neg zO,Lib.decDigits_length];by_cases h:n.toNat=0
  ·rw[h,Lib.nDigits_small zO];omega
  ·have:=Lib.numDigits_eq n.toNat zO zO;split at this<;>omega
 exact⟨trivial,by unfold aG;omega⟩
theorem Xu(s:aa):(fk s 47).2.1.length≤s.length:=by
 unfold fk;split
 ·simp
 ·simp
def pN(s:aa):Bool:=isName (fk s 47).1&&(match Lib.atoiAll (fk s 47).2.1 with|.ok n=>decide (1≤n)&&decide (n≤9999)&&decide (Lib.itoa n=(fk s 47).2.1)|_=>false)
theorem ad1{s:aa}{p:Int×Value}(h:FJ (fk s 47).2.1 p):(isName (fk s 47).1&&tX p.2&&decide (1≤p.1)&&decide (p.1≤9999)&&decide (Lib.itoa p.1=(fk s 47).2.1))=pN s:=by
 obtain⟨n,v⟩:=p;unfold pN;rcases h with⟨h1,h2⟩|⟨h1,te,pe,h2⟩
 ·simp only at h1 h2;rw[h1,h2];simp[tX,Bool.and_assoc]
 ·simp only at h1 h2;rw[h2];cases e:Lib.atoiAll (fk s 47).2.1 with
  |ok v=>exact absurd e (h1 v)
  |range=>simp[tX]
  |_=>simp[tX]
end Go.T
namespace Go.T
open Go Go.Proofs Go.Proofs.Tryz
set_option maxRecDepth 20000
structure aae(a b:List cX)where
 pre:List cX
 rest:List cX
 aw:List cX
 aI:List cX
 hx:a=pre++rest
 hy:b=aw++aI
 hp:pre=aw
 ml:aw.length=pre.length
 jv:aI.length=rest.length
theorem aad(a b:List cX):Fc Tryz.prog 114 [mE a,mE b] (.b (jq a b)):=by
 refine Fc.mk' [4] func114 rfl ntmps114 rfl rfl rfl (fun t w=>results_tmp results114 t _ w) ?_;refine J.ej 0 rfl (fun hb=>?_);simp only[List.length_map,aG]at hb;refine J.ej 1 rfl (fun fp=>?_);simp only[List.length_map,aG]at fp;refine go [] ?_;refine br (fun h1=>?_) (fun h1=>?_)
 ·exact ah rfl (Sub.bool (by exact CS (by have h9:=h1;simp at h9;omega)))
 ·refine J.loop (ι:=aae a b) (fun sx=>[(0,mE a),(1,mE b),(12,.i a.length),(13,.i sx.pre.length)]) (fun sx=>[]) (fun sx=>sx.rest.length) ⟨[],a,[],b,rfl,rfl,rfl,rfl,by simp at h1;omega⟩ ?_ ?_
  ·exact Le.mk rfl (.s rfl rfl (.s rfl rfl (.cons rfl (Sub.int zS) rfl (.s rfl rfl .nil)))) .nil
  ·rintro⟨pre,rest,aw,aI,hx,hy,hp,ml,jv⟩;show J _ _ _ _ [(0,mE a),(1,mE b),(12,.i a.length),(13,.i pre.length)] [];have hl:=congrArg List.length hx;simp only[List.length_append]at hl;rcases rest with _|⟨x,rest⟩
   ·obtain rfl:aI=[]:=List.length_eq_zero_iff.1 (by simpa using jv);refine go [] ?_;refine aR (by simp at hl⊢;omega) ?_;refine go [] ?_;exact ah rfl (Sub.bool (by exact CR hx hy hp))
   ·simp only[List.length_cons]at hl;obtain⟨y,aI,rfl⟩:=Cz (n:=rest.length) (by simpa using jv);refine go [] ?_;refine a_ zQ ?_;refine ix zO (bn iQ hx rfl) ?_;refine ix zO (bn iQ hy zO) ?_;refine oP (sX (xs:=[x.fc,x.c_]) (ys:=[y.fc,y.c_]) underlying85 (by kernel_rfl) (by kernel_rfl) (.cons zK underlying9 isAgg9 rfl (.cons zK underlying33 isAgg33 rfl (.nil _))) rfl rfl rfl rfl rfl rfl) ?_;refine ord ?_;refine br (fun h2=>?_) (fun h2=>?_)
    ·exact ah rfl (Sub.bool (by exact CT hx hy ml (ahq h2)))
    ·refine sd (az zO) ?_;exact nx ⟨pre++[x],rest,aw++[y],aI,by simp[hx],by simp[hy],by rw[hp,ahp h2],by simp[ml],by simpa using jv⟩ zS (Le.mk rfl (.s rfl rfl (.s rfl rfl (.s rfl rfl (.cons rfl (Sub.int zS) rfl .nil)))) .nil)
structure aac(a b:List cR)where
 pre:List cR
 rest:List cR
 aw:List cR
 aI:List cR
 hx:a=pre++rest
 hy:b=aw++aI
 hp:pre=aw
 ml:aw.length=pre.length
 jv:aI.length=rest.length
theorem aab(a b:List cR):Fc Tryz.prog 115 [j1 a,j1 b] (.b (jq a b)):=by
 refine Fc.mk' [4] func115 rfl ntmps115 rfl rfl rfl (fun t w=>results_tmp results115 t _ w) ?_;refine J.ej 0 rfl (fun hb=>?_);simp only[List.length_map,aG]at hb;refine J.ej 1 rfl (fun fp=>?_);simp only[List.length_map,aG]at fp;refine go [] ?_;refine br (fun h1=>?_) (fun h1=>?_)
 ·exact ah rfl (Sub.bool (by exact CS (by have h9:=h1;simp at h9;omega)))
 ·refine J.loop (ι:=aac a b) (fun sx=>[(0,j1 a),(1,j1 b),(12,.i a.length),(13,.i sx.pre.length)]) (fun sx=>[]) (fun sx=>sx.rest.length) ⟨[],a,[],b,rfl,rfl,rfl,rfl,by simp at h1;omega⟩ ?_ ?_
  ·exact Le.mk rfl (.s rfl rfl (.s rfl rfl (.cons rfl (Sub.int zS) rfl (.s rfl rfl .nil)))) .nil
  ·rintro⟨pre,rest,aw,aI,hx,hy,hp,ml,jv⟩;show J _ _ _ _ [(0,j1 a),(1,j1 b),(12,.i a.length),(13,.i pre.length)] [];have hl:=congrArg List.length hx;simp only[List.length_append]at hl;rcases rest with _|⟨x,rest⟩
   ·obtain rfl:aI=[]:=List.length_eq_zero_iff.1 (by simpa using jv);refine go [] ?_;refine aR (by simp at hl⊢;omega) ?_;refine go [] ?_;exact ah rfl (Sub.bool (by exact CR hx hy hp))
   ·simp only[List.length_cons]at hl;obtain⟨y,aI,rfl⟩:=Cz (n:=rest.length) (by simpa using jv);refine go [] ?_;refine a_ zQ ?_;refine ix zO (bn lA hx rfl) ?_;refine ix zO (bn lA hy zO) ?_;refine oP (SU (xs:=(sJ x)) (ys:=(sJ y)) underlying87 (by kernel_rfl) (by kernel_rfl) (.str zK underlying9 isAgg9 rfl (.sub zK underlying35 (by kernel_rfl) isAgg35 sizeOf35 rfl (.cons zK underlying33 isAgg33 rfl (.cons zK underlying33 isAgg33 rfl (.nil _))) rfl (.sub zK underlying35 (by kernel_rfl) isAgg35 sizeOf35 rfl (.cons zK underlying33 isAgg33 rfl (.cons zK underlying33 isAgg33 rfl (.nil _))) rfl (.sub zK underlying35 (by kernel_rfl) isAgg35 sizeOf35 rfl (.cons zK underlying33 isAgg33 rfl (.cons zK underlying33 isAgg33 rfl (.nil _))) rfl (.nil _))))) rfl rfl rfl rfl rfl rfl) ?_;refine ord ?_;refine br (fun h2=>?_) (fun h2=>?_)
    ·exact ah rfl (Sub.bool (by exact CT hx hy ml (agX h2)))
    ·refine sd (az zO) ?_;exact nx ⟨pre++[x],rest,aw++[y],aI,by simp[hx],by simp[hy],by rw[hp,agW h2],by simp[ml],by simpa using jv⟩ zS (Le.mk rfl (.s rfl rfl (.s rfl rfl (.s rfl rfl (.cons rfl (Sub.int zS) rfl .nil)))) .nil)
theorem ai0(a b:Fact):Fc Tryz.prog 76 [.agg (aM a),.agg (aM b)] (.b (wX a b)):=by
 refine Fc.mk' [4] func76 rfl ntmps76 rfl rfl rfl (fun t w=>results_tmp results76 t _ w) ?_;refine go [] ?_;refine gP (fun hg=>wM (xs:=[a.du.num,a.du.den]) (ys:=[b.du.num,b.du.den]) underlying35 (by kernel_rfl) (by kernel_rfl) (.cons zK underlying33 isAgg33 rfl (.cons zK underlying33 isAgg33 rfl (.nil _))) rfl rfl rfl rfl rfl rfl) ?_;refine gP (fun hg=>wM (xs:=[a.ratio.num,a.ratio.den]) (ys:=[b.ratio.num,b.ratio.den]) underlying35 (by kernel_rfl) (by kernel_rfl) (.cons zK underlying33 isAgg33 rfl (.cons zK underlying33 isAgg33 rfl (.nil _))) rfl rfl rfl rfl rfl rfl) ?_;refine gP (fun hg=>wM (xs:=[a.share.num,a.share.den]) (ys:=[b.share.num,b.share.den]) underlying35 (by kernel_rfl) (by kernel_rfl) (.cons zK underlying33 isAgg33 rfl (.cons zK underlying33 isAgg33 rfl (.nil _))) rfl rfl rfl rfl rfl rfl) ?_;refine gP (fun hg=>ai call114 rfl (aad _ _)) ?_;refine gP (fun hg=>ai call115 rfl (aab _ _)) ?_;exact ah rfl (Sub.refl _)
theorem Ug(f:Fact)(n:Int)(h0:0≤n)(hn:n<13):Fc Tryz.prog 128 [.agg (aM f),.i n] (.agg (cG (iM f n))):=by
 refine Fc.iI func128 rfl ntmps128 rfl rfl rfl ?_;refine go [1,99999] ?_;refine J.bP (Le.gg 2 0 rfl rfl rfl rfl) ?_;refine go [99999] ?_;refine oP (ai call184 rfl (E_ _)) ?_;refine oP (ai call184 rfl (E_ _)) ?_;refine oP (ai call184 rfl (E_ _)) ?_;refine oP (SO (r:=cG (iM f n)) underlying208 isAgg35 sizeOf35 rfl rfl h0 hn zQ (alL h0 hn)) ?_;refine ord ?_;refine J.ret (?_);exact Rd.cA results128 isAgg35 sizeOf35 rfl rfl rfl (Sub.agg (.r (.r .nil)))
theorem MN(f:Fact)(n:Int)(h0:0≤n)(hn:n<13):Fc Tryz.prog 89 [.agg (aM f),.i n] (.b (cS f n)):=by
 refine Fc.mk' [4] func89 rfl ntmps89 rfl rfl rfl (fun t w=>results_tmp results89 t _ w) ?_;refine go [] ?_;refine br (fun h1=>?_) (fun h1=>?_)
 ·exact ah rfl (Sub.bool (by(try simp only[List.length_map]);unfold cS;exact iT h1))
 ·refine br (fun h2=>?_) (fun h2=>?_)
  ·exact ah rfl (Sub.bool (by(try simp only[List.length_map]);unfold cS;exact iF h1 (iT h2)))
  ·refine br (fun h3=>?_) (fun h3=>?_)
   ·exact ah rfl (Sub.bool (by(try simp only[List.length_map]);unfold cS;exact iF h1 (iF h2 (iT h3))))
   ·refine br (fun h4=>?_) (fun h4=>?_)
    ·exact ah rfl (Sub.bool (by(try simp only[List.length_map]);unfold cS;exact iF h1 (iF h2 (iF h3 (iT h4)))))
    ·refine br (fun h5=>?_) (fun h5=>?_)
     ·exact ah rfl (Sub.bool (by(try simp only[List.length_map]);unfold cS;exact iF h1 (iF h2 (iF h3 (iF h4 (iT h5))))))
     ·refine br (fun h6=>?_) (fun h6=>?_)
      ·exact ah rfl (Sub.bool (by(try simp only[List.length_map]);unfold cS;exact iF h1 (iF h2 (iF h3 (iF h4 (iF h5 (iT h6)))))))
      ·refine br (fun h7=>?_) (fun h7=>?_)
       ·exact ah rfl (Sub.bool (by(try simp only[List.length_map]);unfold cS;exact iF h1 (iF h2 (iF h3 (iF h4 (iF h5 (iF h6 (iT h7))))))))
       ·refine oP (ai call128 rfl (Ug _ _ zA zA)) ?_;refine oP (wM (xs:=[(iM f n).num,(iM f n).den]) (ys:=[dH.num,dH.den]) underlying35 (by kernel_rfl) (by kernel_rfl) (.cons zK underlying33 isAgg33 rfl (.cons zK underlying33 isAgg33 rfl (.nil _))) rfl rfl rfl rfl rfl rfl) ?_;exact ah rfl (Sub.bool (by(try simp only[List.length_map]);unfold cS;exact iF h1 (iF h2 (iF h3 (iF h4 (iF h5 (iF h6 (iF h7 (C6 _ _)))))))))
theorem ad2(s:aa)(hs:s.length≤200):Fc Tryz.prog 181 [.str s] (.b (pN s)):=by
 refine Fc.mk' [2] func181 rfl ntmps181 rfl rfl rfl (fun t w=>results_tmp results181 t _ w) ?_;have hc:=Xu s;refine go [2,3] ?_;refine oP (ai call233 rfl (ajC _ _)) ?_;refine J.sZ ?_;refine Tx.q rfl trivial (aX rfl _) ?_;refine Tx.n rfl trivial (JS call234 rfl (Vu _ zO) _) (fun nb cm=>?_);dsimp only;refine Tx.q rfl trivial (aX rfl _) ?_;refine Tx.q rfl trivial (dY rfl rfl _) ?_;refine Tx.q rfl trivial (dY rfl rfl _) ?_;refine Tx.q rfl trivial (wL rfl _) ?_;refine Tx.q rfl trivial (wL rfl _) ?_;refine Tx.nil ?_;refine go [2,3] ?_;refine J.af [.p,.p,.p,.p,.p,.p,.p,.p,.p,.p,.p,.p,.p,.p,.p,.p,.p,.p,.p,.p,.p] ?_;refine .mv rfl rfl<|.P rfl (ai call86 rfl (yz _))<|.mv rfl rfl<|.gT rfl (.inl rfl) rfl rfl rfl (fun hg=>pk (fun _=>aX rfl _))<|.gT rfl (.inl rfl) rfl rfl rfl (fun hg=>pk (fun _=>ahP underlying239 (bj rfl hg) (Vt cm) _))<|.P rfl (gD rfl rfl)<|.mv rfl rfl<|.gT rfl (.inl rfl) rfl rfl rfl (fun hg=>pk (fun _=>aX rfl _))<|.gT rfl (.inl rfl) rfl rfl rfl (fun hg=>pk (fun _=>pY (bj rfl hg) rfl _))<|.P rfl (gD rfl rfl)<|.mv rfl rfl<|.gT rfl (.inl rfl) rfl rfl rfl (fun hg=>pk (fun _=>aX rfl _))<|.gT rfl (.inl rfl) rfl rfl rfl (fun hg=>pk (fun _=>EC (bj rfl hg) rfl _))<|.P rfl (gD rfl rfl)<|.mv rfl rfl<|.gT rfl (.inl rfl) rfl rfl rfl (fun hg=>pk (fun _=>aX rfl _))<|.gT rfl (.inl rfl) rfl rfl rfl (fun hg=>pk (fun _=>ai call235 (cd (bj rfl hg) (rfl)) (ad4 _ (by simp[lW]at hg;omega) (by simp[lW]at hg;omega)) _))<|.gT rfl (.inl rfl) rfl rfl rfl (fun hg=>pk (fun _=>aX rfl _))<|.gT rfl (.inl rfl) rfl rfl rfl (fun hg=>pk (fun _=>SL (bj rfl hg) (bj rfl hg) _))<|.P rfl (gD rfl rfl)<|.ag rfl rfl<|.nil ?_;refine go [2,3] ?_;exact ah rfl (Sub.bool (by exact ad1 cm))
end Go.T
namespace Go.T
open Go
def km(q:aa)(pre:List cX)(sum:aa):List cX→Int
 |[]=>if decide (0<fO (val sum-val q))=true then 15 else 0
 |p::r=>if(!pN p.fc)=true then 23 else if pre.any (fun y=>decide (y.fc=p.fc))=true then 5 else if decide (eF true false ⟨p.c_,[]⟩≠0)=true then eF true false ⟨p.c_,[]⟩else km q (pre++[p]) (pr sum p.c_) r
def rj(f:Fact):Int:=if decide (64<(f.fe.length:Int))=true then 4 else km f.c_ [] [] f.fe
theorem Sj{f:Fact}(h:decide (64<(f.fe.length:Int))=false):rj f=km f.c_ [] [] f.fe:=by rw[rj,if_neg (by rw[h];simp)]
theorem Sk{e:Int}{q sum:aa}{pre rest:List cX}{x:cX}(hp:e=km q pre sum (x::rest))(h:(!pN x.fc)=true):23=e:=by rw[hp,km,if_pos h]
theorem Sl{e:Int}{q sum:aa}{pre rest:List cX}{x:cX}(hp:e=km q pre sum (x::rest))(h:(!pN x.fc)=false)(h2:pre.any (fun y=>decide (y.fc=x.fc))=true):5=e:=by rw[hp,km,if_neg (by rw[h];simp),if_pos h2]
theorem Sm{e:Int}{q sum:aa}{pre rest:List cX}{x:cX}(hp:e=km q pre sum (x::rest))(h:(!pN x.fc)=false)(h2:pre.any (fun y=>decide (y.fc=x.fc))=false)(h3:decide (eF true false ⟨x.c_,[]⟩≠0)=true):eF true false ⟨x.c_,[]⟩=e:=by
 rw[hp,km,if_neg (by rw[h];simp),if_neg (by rw[h2];simp),if_pos h3]
theorem Sn{e:Int}{q sum:aa}{pre rest:List cX}{x:cX}(hp:e=km q pre sum (x::rest))(h:(!pN x.fc)=false)(h2:pre.any (fun y=>decide (y.fc=x.fc))=false)(h3:decide (eF true false ⟨x.c_,[]⟩≠0)=false):e=km q (pre++[x]) (pr sum x.c_) rest:=by
 rw[hp,km,if_neg (by rw[h];simp),if_neg (by rw[h2];simp),if_neg (by rw[h3];simp)]
def kU:List aP→Int→Int
 |[],d=>d
 |x::r,d=>if decide (eF false false x≠0)=true then eF false false x else kU r d
def yN(o:cR):Bool:=(decide (o.other≠[])!=(!decide ([o.ratio.num,o.ratio.den]=[[],[]])))||(decide (o.other=[])&&!decide ([o.value.num,o.value.den]=[[],[]]))
def wF(i:aa)(o:cR)(d:Int):Int:=if(decide (o.other≠[])&&!isName o.other)=true then 23 else if decide (o.other=i)=true then 18 else kU [o.ratio,o.du,o.value] (if yN o=true then 2 else d)
def mA(i:aa):List cR→Int
 |[]=>0
 |o::r=>wF i o (mA i r)
def nn(f:Fact):Int:=if decide ((f.opts.length:Int)=0)=true then 11 else if decide (8<(f.opts.length:Int))=true then 4 else mA f.eY f.opts
theorem ag4{f:Fact}(h:decide ((f.opts.length:Int)=0)=false)(h2:decide (8<(f.opts.length:Int))=false):nn f=mA f.eY f.opts:=by rw[nn,if_neg (by rw[h];simp),if_neg (by rw[h2];simp)]
theorem agT{e:Int}{i:aa}{o:cR}{r:List cR}(hp:e=mA i (o::r))(h:(decide (o.other≠[])&&!isName o.other)=true):23=e:=by rw[hp,mA,wF,if_pos h]
theorem agU{e:Int}{i:aa}{o:cR}{r:List cR}(hp:e=mA i (o::r))(h:(decide (o.other≠[])&&!isName o.other)=false)(h2:decide (o.other=i)=true):18=e:=by rw[hp,mA,wF,if_neg (by rw[h];simp),if_pos h2]
theorem agV{e:Int}{i:aa}{o:cR}{r:List cR}(hp:e=mA i (o::r))(h:(decide (o.other≠[])&&!isName o.other)=false)(h2:decide (o.other=i)=false):e=kU [o.ratio,o.du,o.value] (if yN o=true then 2 else mA i r):=by
 rw[hp,mA,wF,if_neg (by rw[h];simp),if_neg (by rw[h2];simp)]
theorem D1{e d:Int}{x:aP}{r:List aP}(h:e=kU (x::r) d)(k:decide (eF false false x≠0)=true):eF false false x=e:=by rw[h,kU,if_pos k]
theorem qT{e d:Int}{x:aP}{r:List aP}(h:e=kU (x::r) d)(k:decide (eF false false x≠0)=false):e=kU r d:=by rw[h,kU,if_neg (by rw[k];simp)]
theorem D0{e d:Int}(h:e=kU [] d):e=d:=h
theorem RY{e d:Int}{b:Bool}(h:e=if b=true then 2 else d)(hb:b=false):e=d:=by rw[h,if_neg (by rw[hb];simp)]
theorem RZ{e d:Int}{b:Bool}(h:e=if b=true then 2 else d)(hb:b=true):2=e:=by rw[h,if_pos hb]
theorem Ss{f:Fact}(h:decide (64<(f.fe.length:Int))=true):4=rj f:=by rw[rj,if_pos h]
theorem Sp{e:Int}{q sum:aa}{pre:List cX}(hp:e=km q pre sum [])(h:decide (0<fO (val sum-val q))=true):15=e:=by rw[hp,km,if_pos h]
theorem Sr{e:Int}{q sum:aa}{pre:List cX}(hp:e=km q pre sum [])(h:decide (0<fO (val sum-val q))=false):0=e:=by rw[hp,km,if_neg (by rw[h];simp)]
theorem ag5{f:Fact}(h:decide ((f.opts.length:Int)=0)=true):11=nn f:=by rw[nn,if_pos h]
theorem ag6{f:Fact}(h:decide ((f.opts.length:Int)=0)=false)(h2:decide (8<(f.opts.length:Int))=true):4=nn f:=by rw[nn,if_neg (by rw[h];simp),if_pos h2]
structure kC(f:Fact):Prop where
 fe:∀p∈f.fe,p.fc.length≤200∧p.c_.length≤60
 c_:f.c_.length≤60
 mH:f.mH.length≤60
 mP:f.mP.length≤60
 du:lk f.du
 ratio:lk f.ratio
 share:lk f.share
 opts:∀o∈f.opts,lk o.ratio∧lk o.du∧lk o.value
open Go.Proofs Go.Proofs.Tryz
set_option maxRecDepth 20000
structure Wo(f:Fact)where
 pre:List cX
 rest:List cX
 sum:aa
 hx:f.fe=pre++rest
 hp:rj f=km f.c_ pre sum rest
 AD:sum.length≤62*pre.length
 Ad:f.fe.length≤64
theorem LM(f:Fact)(hf:kC f):Fc Tryz.prog 126 [.agg (aM f)] (.i (rj f)):=by
 refine Fc.mk' [2] func126 rfl ntmps126 rfl rfl rfl (fun t w=>results_tmp results126 t _ w) ?_;refine J.rG 0 18 rfl rfl (fun hb=>?_);simp only[List.length_map,aG]at hb;refine go [9] ?_;refine br (fun h1=>?_) (fun h1=>?_)
 ·exact ah rfl (Sub.int (by exact Ss (by simpa using h1)))
 ·refine J.loop (ι:=Wo f) (fun sx=>[(1,.box 0 0),(3,.str sx.sum),(12,mE f.fe),(13,.i f.fe.length),(14,.i sx.pre.length)]) (fun sx=>[(0,.cells (aM f))]) (fun sx=>sx.rest.length) ⟨[],_,[],rfl,Sj (by simpa using h1),by simp,by have h9:=h1;simp at h9;omega⟩ ?_ ?_
  ·exact Le.mk rfl (.s rfl rfl (.s rfl rfl (.s rfl rfl (.cons rfl (Sub.int zS) rfl (.s rfl rfl .nil))))) (.cons rfl rfl .nil)
  ·rintro⟨pre,rest,sum,hx,hp,AD,Ad⟩;show J _ _ _ _ [(1,.box 0 0),(3,.str sum),(12,mE f.fe),(13,.i f.fe.length),(14,.i pre.length)] [(0,.cells (aM f))];have hl:=congrArg List.length hx;simp only[List.length_append]at hl;rcases rest with _|⟨x,rest⟩
   ·skip;refine go [9] ?_;refine aR (by simp at hl⊢;omega) ?_;refine go [9] ?_;refine oP (ai call186 rfl (zy sum f.c_ zO (by have:=hf.c_;omega))) ?_;refine br (fun h2=>?_) (fun h2=>?_)
    ·exact ah rfl (Sub.int (by exact Sp hp h2))
    ·exact ah rfl (Sub.int (by exact Sr hp h2))
   ·simp only[List.length_cons]at hl;have x8:=hf.fe x (by rw[hx];simp);refine go [9] ?_;refine a_ zQ ?_;refine ix zO (bn iQ hx rfl) ?_;refine oP (ai call181 rfl (ad2 x.fc x8.1)) ?_;refine br (fun h3=>?_) (fun h3=>?_)
    ·exact ah rfl (Sub.int (by exact Sk hp h3))
    ·refine J.bP (Le.gg 5 1 rfl rfl rfl rfl) ?_;refine go [] ?_;refine oP (uC underlying36 sizeOf85 rfl (l:=0) (h:=pre.length) (r:=pre.map iQ) (.inl ⟨rfl,rfl⟩) (.inr ⟨_,_,rfl,rfl⟩) zO (by simp[hx]) (by rw[hx];simp)) ?_;refine oP (ai call182 rfl (Xf pre _ [.aY (iQ x)] rfl (fun y=>decide (y.fc=x.fc)) call183 (fun y _=>aiZ y x))) ?_;refine br (fun h4=>?_) (fun h4=>?_)
     ·exact ah rfl (Sub.int (by exact Sl hp h3 h4))
     ·refine oP (ai call120 rfl (zr _ _)) ?_;refine oP (ai call184 rfl (E_ _)) ?_;refine oP (dX call175 rfl rfl (Jm ⟨x.c_,[]⟩ true false ⟨x8.2,by simp⟩)) ?_;refine ord ?_;refine br (fun h5=>?_) (fun h5=>?_)
      ·exact ah rfl (Sub.int (by exact Sm hp h3 h4 h5))
      ·refine oP (ai call185 rfl (Vh sum x.c_ zO zO)) ?_;refine go [9] ?_;refine sd (az zO) ?_;exact nx ⟨pre++[x],rest,pr sum x.c_,by simp[hx],Sn hp h3 h4 h5,by have:=Vd sum x.c_;have:=x8.2;simp;omega,Ad⟩ zS (Le.mk rfl (.s rfl rfl (.s rfl rfl (.s rfl rfl (.s rfl rfl (.cons rfl (Sub.int zS) rfl .nil))))) (.cons rfl rfl .nil))
structure Wm(f:Fact)where
 pre:List cR
 rest:List cR
 hx:f.opts=pre++rest
 hp:nn f=mA f.eY rest
structure Wn(f:Fact)(pre rest:List cR)(x:cR)where
 aw:List aP
 aI:List aP
 bl:[x.ratio,x.du,x.value]=aw++aI
 hq:nn f=kU aI (if yN x=true then 2 else mA f.eY rest)
theorem LL(f:Fact)(hf:kC f):Fc Tryz.prog 127 [.agg (aM f)] (.i (nn f)):=by
 refine Fc.mk' [2] func127 rfl ntmps127 rfl rfl rfl (fun t w=>results_tmp results127 t _ w) ?_;refine J.rG 0 19 rfl rfl (fun hb=>?_);simp only[List.length_map,aG]at hb;refine go [] ?_;refine br (fun h1=>?_) (fun h1=>?_)
 ·exact ah rfl (Sub.int (by exact ag5 (by simpa using h1)))
 ·refine br (fun h2=>?_) (fun h2=>?_)
  ·exact ah rfl (Sub.int (by exact ag6 (by simpa using h1) (by simpa using h2)))
  ·refine J.loop (ι:=Wm f) (fun sx=>[(1,.box 0 0),(17,j1 f.opts),(18,.i f.opts.length),(19,.i sx.pre.length)]) (fun sx=>[(0,.cells (aM f))]) (fun sx=>sx.rest.length) ⟨[],_,rfl,ag4 (by simpa using h1) (by simpa using h2)⟩ ?_ ?_
   ·exact Le.mk rfl (.s rfl rfl (.s rfl rfl (.cons rfl (Sub.int zS) rfl (.s rfl rfl .nil)))) (.cons rfl rfl .nil)
   ·rintro⟨pre,rest,hx,hp⟩;show J _ _ _ _ [(1,.box 0 0),(17,j1 f.opts),(18,.i f.opts.length),(19,.i pre.length)] [(0,.cells (aM f))];have hl:=congrArg List.length hx;simp only[List.length_append]at hl;rcases rest with _|⟨x,rest⟩
    ·skip;refine go [] ?_;refine aR (by simp at hl⊢;omega) ?_;refine go [] ?_;exact ah rfl (Sub.int (by rw[hp];rfl))
    ·simp only[List.length_cons]at hl;have jy:=hf.opts x (by rw[hx];simp);refine go [] ?_;refine a_ zQ ?_;refine ix zO (bn lA hx rfl) ?_;refine gP (fun hg=>ai call86 rfl (yz _)) ?_;refine br (fun h3=>?_) (fun h3=>?_)
     ·exact ah rfl (Sub.int (by exact agT hp h3))
     ·refine br (fun h4=>?_) (fun h4=>?_)
      ·exact ah rfl (Sub.int (by exact agU hp h3 h4))
      ·refine oP (bI (n:=3) (rows:=[cG x.ratio,cG x.du,cG x.value]) underlying116 sizeOf35 rfl rfl rfl zeroValue35 rfl rfl rfl rfl rfl rfl rfl) ?_;refine J.loop (ι:=Wn f pre rest x) (fun sx=>[(1,.box 0 0),(4,.box 1 0),(17,j1 f.opts),(18,.i f.opts.length),(19,.i pre.length),(43,.snap 2 true ([x.ratio,x.du,x.value].map cG)),(44,.i 3),(45,.i sx.aw.length)]) (fun sx=>[(0,.cells (aM f)),(1,.cells (lA x))]) (fun sx=>sx.aI.length) ⟨[],_,rfl,agV hp h3 h4⟩ ?_ ?_
       ·exact Le.mk rfl (.s rfl rfl (.s rfl rfl (.s rfl rfl (.s rfl rfl (.s rfl rfl (.s rfl rfl (.s rfl rfl (.s rfl rfl .nil)))))))) (.cons rfl rfl (.cons rfl rfl .nil))
       ·rintro⟨aw,aI,bl,hq⟩;show J _ _ _ _ [(1,.box 0 0),(4,.box 1 0),(17,j1 f.opts),(18,.i f.opts.length),(19,.i pre.length),(43,.snap 2 true ([x.ratio,x.du,x.value].map cG)),(44,.i 3),(45,.i aw.length)] [(0,.cells (aM f)),(1,.cells (lA x))];have bL:=congrArg List.length bl;simp only[List.length_append,List.length_cons,List.length_nil]at bL;rcases aI with _|⟨x2,aI⟩
        ·skip;refine go [] ?_;refine aR (by simp at bL⊢;omega) ?_;refine go [] ?_;refine oP (sX (xs:=[x.ratio.num,x.ratio.den]) (ys:=[[],[]]) underlying35 (by kernel_rfl) (by kernel_rfl) (.cons zK underlying33 isAgg33 rfl (.cons zK underlying33 isAgg33 rfl (.nil _))) rfl rfl rfl rfl rfl rfl) ?_;refine gP (fun hg=>sX (xs:=[x.value.num,x.value.den]) (ys:=[[],[]]) underlying35 (by kernel_rfl) (by kernel_rfl) (.cons zK underlying33 isAgg33 rfl (.cons zK underlying33 isAgg33 rfl (.nil _))) rfl rfl rfl rfl rfl rfl) ?_;refine ord ?_;refine br (fun h5=>?_) (fun h5=>?_)
         ·exact ah rfl (Sub.int (by exact RZ (D0 hq) h5))
         ·refine go [] ?_;refine sd (az zO) ?_;exact nx ⟨pre++[x],rest,by simp[hx],RY (D0 hq) h5⟩ zS (Le.mk rfl (.s rfl rfl (.s rfl rfl (.s rfl rfl (.cons rfl (Sub.int zS) rfl .nil)))) (.cons rfl rfl .nil))
        ·simp only[List.length_cons]at bL;have j_:=QX bl;refine go [] ?_;refine a_ zQ ?_;refine ix zO (bn cG bl rfl) ?_;refine oP (ai call120 rfl (zr _ _)) ?_;refine oP (dX call175 rfl rfl (Jm x2 false false (by rcases j_ with rfl|rfl|rfl;exact jy.1;exact jy.2.1;exact jy.2.2))) ?_;refine ord ?_;refine br (fun h6=>?_) (fun h6=>?_)
         ·exact ah rfl (Sub.int (by exact D1 hq h6))
         ·refine sd (az zO) ?_;exact nx ⟨aw++[x2],aI,by simp[bl],qT hq h6⟩ zS (Le.mk rfl (.s rfl rfl (.s rfl rfl (.s rfl rfl (.s rfl rfl (.s rfl rfl (.s rfl rfl (.s rfl rfl (.cons rfl (Sub.int zS) rfl .nil)))))))) (.cons rfl rfl (.cons rfl rfl .nil)))
end Go.T
namespace Go.T
open Go
variable[bV]
@[reducible] def de(s:aa):Prop:=s.length≤aG
theorem Nt(k:aa):∀(es:List MapEntry)(ks:List aa)(i:Nat),es.map (·.key)=ks.map B5→Instr.findNow .string (B5 k) es i=some ((js k ks i).map fun j=>(j,(es[j-i]?.map (·.val)).getD undef))
 |[],[],i,_=>by simp[Instr.findNow,js]
 |[],_::_,i,h=>by simp at h
 |_::_,[],i,h=>by simp at h
 |e::es,x::ks,i,h=>by
  simp only[List.map_cons,List.cons.injEq]at h;have ih:=Nt k es ks (i+1) h.2;simp only[Instr.findNow,h.1,Instr.sameNow,TR];by_cases hx:k=x
  ·subst hx;simp[js]
  ·simp only[js,hx,if_false,decide_false];rw[ih];cases hf:js k ks (i+1)with
   |none=>rfl
   |some j=>
    have:=GR hf;simp only[Option.map_some];rw[show j-i=(j-(i+1))+1 by omega,List.getElem?_cons_succ]
theorem ad'{P:Program}{kt:TypeId}(hu:P.underlying kt=some .string):jI P kt D.str B5 de:=by
 refine⟨?_,?_,?_,?_,?_⟩
 ·intro w O ρ k v h;simp only[V]at h;exact h
 ·intro w O ρ k h;simp only[V];exact⟨trivial,h⟩
 ·intro b k w _;show(Instr.checkKey b (9999+1) kt _).run P w=_;rw[Instr.checkKey];simp[bY hu]
 ·intro k es ks w HJ _ _;have:=Nt k es ks 0 HJ;simp only[Nat.sub_zero]at this;simp[Instr.findKey,bY hu,this]
 ·intro k w;simp[Instr.keyThatStays,Instr.sameBits,TR]
end Go.T
namespace Go.T
open Go
variable[bV]
theorem Ns(ik:IntKind)(k:Int):∀(es:List MapEntry)(ks:List Int)(i:Nat),es.map (·.key)=ks.map (Value.int ik)→Instr.findNow (.int ik) (.int ik k) es i=some ((js k ks i).map fun j=>(j,(es[j-i]?.map (·.val)).getD undef))
 |[],[],i,_=>by simp[Instr.findNow,js]
 |[],_::_,i,h=>by simp at h
 |_::_,[],i,h=>by simp at h
 |e::es,x::ks,i,h=>by
  simp only[List.map_cons,List.cons.injEq]at h;have ih:=Ns ik k es ks (i+1) h.2;simp only[Instr.findNow,h.1,Instr.sameNow];by_cases hx:k=x
  ·subst hx;simp[js]
  ·have hb:(k==x)=false:=by simpa using hx
   simp only[js,hx,if_false,hb];rw[ih];cases hf:js k ks (i+1)with
   |none=>rfl
   |some j=>
    have:=GR hf;simp only[Option.map_some];rw[show j-i=(j-(i+1))+1 by omega,List.getElem?_cons_succ];simp
theorem ad_{P:Program}{kt:TypeId}{ik:IntKind}(hu:P.underlying kt=some (.int ik)):jI P kt (fun n:Int=>D.raw (.int ik n)) (Value.int ik) (fun _=>True):=by
 refine⟨?_,?_,?_,?_,?_⟩
 ·intro w O ρ k v h;simp only[V]at h;exact⟨h,trivial⟩
 ·intro w O ρ k _;simp only[V]
 ·intro b k w _;show(Instr.checkKey b (9999+1) kt _).run P w=_;rw[Instr.checkKey];simp[bY hu]
 ·intro k es ks w HJ _ _;have:=Ns ik k es ks 0 HJ;simp only[Nat.sub_zero]at this;simp[Instr.findKey,bY hu,this]
 ·intro k w;simp[Instr.keyThatStays,Instr.sameBits]
end Go.T
namespace Go.T
open Go
variable[bV]
section
variable{P:Program} {env:Env} {dst:Option Tmp} {ty:TypeId} {pos:String} {ar:Array Edge} {g:Option (Nat×Bool)}
theorem ah9{t kt et:TypeId}{x:Operand}{U:ae}(eh:Nat)(hu:P.underlying t=some (.map kt et))(hx:env.op x=some (.raw (.map none)))(hid:U.get eh=none):
  aq P ⟨dst,.range t x,ty,pos,ar,g⟩ env U (.box eh 0) ((eh,.mn)::U):=
 .step fun O ρ a w aj hv=>by
  have cc:=hv x (by simp[Op.operands]) _ hx;simp only[V]at cc;have hr:=run_range_nilMap (P:=P) w t kt et hu;refine⟨.pointer (some ⟨w.heap.size,0,none⟩),_,T.cg ρ eh ⟨w.heap.size,0,0⟩,.inl ?_,Tr.born aj hid (.mapIter none 0 #[] 0) rfl (fun i x h _=>h) (fun i h=>h) ?_,?_⟩
  ·simp only[execOp,cc];rw[Sem.run_bind,hr];rfl
  ·intro hk;show({w with heap:=w.heap.push (.mapIter none 0 #[] 0)}:World).heap[w.heap.size]?=_;simp
  ·simp only[V];exact⟨⟨w.heap.size,0,0⟩,by simp[T.cg],rfl⟩
theorem ah5{x:Operand}{eh:Nat}{U:ae}(hx:env.op x=some (.box eh 0))(hi:U.get eh=some .mn):
  aq P ⟨dst,.next x false,ty,pos,ar,g⟩ env U (.bf [.b false]) U:=
 .val fun O ρ a w aj hv=>by
  have cc:=hv x (by simp[Op.operands]) _ hx;simp only[V]at cc;obtain⟨r,pG,e1⟩:=cc;obtain⟨r',mX,_,hit⟩:=aj.own eh _ hi rfl;rw[pG]at mX;cases mX;have Ap:w.heap[r.b]?=some (.mapIter none 0 #[] 0):=hit;have hr:(Instr.next (.pointer (some ⟨r.b,0,none⟩)) false ty).run P w=.ok (.tuple #[.bool false]) w:=by
   simp only[Instr.next,getObj,Sem.run_bind,Sem.run,Ap,Result.andThen];rfl
  refine⟨.tuple #[.bool false],?_,by simp[V,Vs,D.b]⟩;simp only[execOp,e1];rw[Sem.run_bind,hr];rfl
end
section
variable{κ β:Type} [DecidableEq κ] {P:Program} {kt:TypeId} {kD:κ→D} {kV:κ→Value} {gi:κ→Prop} {vD:β→D}
variable{env:Env} {dst:Option Tmp} {ty:TypeId} {pos:String} {ar:Array Edge} {g:Option (Nat×Bool)}
theorem SR(hK:jI P kt kD kV gi){t et:TypeId}{x y:Operand}{m:List (κ×β)}{k:κ}{d:β}{kd md:D}{U:ae}{zv:Value}(hu:P.underlying t=some (.map kt et))(hz:∀w,(zeroValue et).run P w=.ok zv w)(r9:∀(w:World) O ρ,V w O ρ (vD d) zv)
  (hx:env.op x=some md)(H3:md=tW kD vD m)(hy:env.op y=some kd)(pE:kd=kD k):
  aq P ⟨dst,.lookup t x y true,ty,pos,ar,g⟩ env U (.bf [vD (cN d m k),.b (iU m k)]) U:=
 .val fun O ρ a w aj hv=>by
  subst pE;subst H3;obtain⟨b,e1,pD⟩:=Cj.1 (hv x (by simp[Op.operands]) _ hx);have dB:=hK.val (hv y (by simp[Op.operands]) _ hy);obtain⟨es,h4,h5,h6⟩:=CU hK pD;have pC:=fun b=>hK.check b k w dB.2;have iH:=hK.find k es.toList (m.map (·.1)) w h5.keys h6 dB.2;rcases zY d k m 0 with⟨g1,g2,g3,_⟩|⟨j,gj,g1,g2,g3,_⟩
  ·refine⟨.tuple #[zv,.bool (iU m k)],?_,by simp only[V,Vs];exact⟨_,rfl,_,_,rfl,by rw[g3];exact r9 _ _ _,_,_,rfl,rfl,rfl⟩⟩;rw[g1]at iH;rw[g2];simp[execOp,e1,dB.1,Instr.lookup,bY hu,MapKept.run_getObj_map h4,pC,iH,hz]
  ·obtain⟨e,k1,k2,k3,k4⟩:=h5.at_ j k _ g2;refine⟨.tuple #[e.val,.bool (iU m k)],?_,by simp only[V,Vs];exact⟨_,rfl,_,_,rfl,V.mono (Kept.refl _ _) (y7 ρ) _ _ k4,_,_,rfl,rfl,rfl⟩⟩;rw[g1]at iH;simp only[Option.map_some,Nat.zero_add,Array.getElem?_toList,k1,Option.getD_some]at iH;rw[g3];simp[execOp,e1,dB.1,Instr.lookup,bY hu,MapKept.run_getObj_map h4,pC,iH]
end
def bm(listed:Array Bool)(i:Nat):Bool:=listed.getD i false
theorem hG{listed:Array Bool}{i j:Nat}(hi:i<listed.size):bm (listed.setIfInBounds i true) j=if i=j then true else bm listed j:=by
 unfold bm;rw[Array.getD_eq_getD_getElem?,Array.getD_eq_getD_getElem?,Array.getElem?_setIfInBounds];split
 ·simp[hi]
 ·rfl
theorem EH{ops:Array Oper}{listed:Array Bool}{i:Nat}(hs:listed.size=ops.size)(h:i∈Region.ready .any ops listed):i<ops.size∧bm listed i=false∧∀o,ops[i]?=some o→∀e∈o.after,Region.binds .any e=true→bm listed e.on=true:=by
 unfold Region.ready at h;rw[List.mem_filter,List.mem_range,Bool.and_eq_true]at h;obtain⟨h1,h2,h3⟩:=h;refine⟨h1,?_,fun o ho e he hb=>?_⟩
 ·unfold bm;have hi:i<listed.size:=by omega
  rw[Array.getD_eq_getD_getElem?,Array.getElem?_eq_getElem hi]at h2⊢;simpa using h2
 ·rw[ho]at h3;simp only[Option.map_some,Option.getD_some]at h3;have:=Array.all_eq_true'.1 h3 e he;rw[hb]at this;simpa[bm]using this
def zq(ops:Array Oper):Bool:=(List.range ops.size).all fun i=>((ops[i]?).map fun o=>o.after.all fun e=>!Region.binds .any e||Nat.blt e.on i).getD true
theorem S0{ops:Array Oper}{listed:Array Bool}(hs:listed.size=ops.size)(hb:zq ops=true)(h:Region.ready .any ops listed=[]):∀i,i<ops.size→bm listed i=true:=by
 intro i;induction i using Nat.strongRecOn with
 |_ i ih=>
  intro hi;cases e:bm listed i with
  |true=>rfl
  |false=>
   exfalso;have:i∈Region.ready .any ops listed:=by
    unfold Region.ready;rw[List.mem_filter,List.mem_range,Bool.and_eq_true];have jQ:i<listed.size:=by omega
    refine⟨hi,?_,?_⟩
    ·unfold bm at e;rw[Array.getD_eq_getD_getElem?,Array.getElem?_eq_getElem jQ]at e⊢;simpa using e
    ·rw[Array.getElem?_eq_getElem hi];simp only[Option.map_some,Option.getD_some];rw[Array.all_eq_true'];intro x hx;have h1:=List.all_eq_true.1 hb i (List.mem_range.2 hi);rw[Array.getElem?_eq_getElem hi]at h1;simp only[Option.map_some,Option.getD_some]at h1;have h2:=Array.all_eq_true'.1 h1 x hx;cases fp:Region.binds .any x with
     |false=>simp
     |true=>
      rw[fp]at h2;have h3:x.on<i:=by simpa[Nat.blt_eq]using h2
      have h4:=ih x.on h3 zO;unfold bm at h4;simp[h4]
   rw[h]at this;cases this
def uO(listed:Array Bool)(n:Nat):Nat:=(List.range n).countP fun i=>!bm listed i
theorem T'{listed:Array Bool}{n i:Nat}(hi:i<n)(h:bm listed i=false):0<uO listed n:=List.countP_pos_iff.2 ⟨i,List.mem_range.2 hi,by simp[h]⟩
theorem Ua{listed:Array Bool}{n i:Nat}(hi:i<n)(hs:n=listed.size)(h:bm listed i=false):uO (listed.setIfInBounds i true) n+1≤uO listed n:=by
 unfold uO;have key:∀l:List Nat,l.Nodup→i∈l→(l.countP fun j=>!bm (listed.setIfInBounds i true) j)+1≤l.countP fun j=>!bm listed j:=by
  intro l;induction l with
  |nil=>intro _ hm;cases hm
  |cons a l ih=>
   intro hn hm;rw[List.nodup_cons]at hn;simp only[List.countP_cons];by_cases e:i=a
   ·subst e;have oU:(l.countP fun j=>!bm (listed.setIfInBounds i true) j)=l.countP fun j=>!bm listed j:=by
     apply List.countP_congr;intro x hx;rw[hG zO,if_neg (by rintro rfl;exact hn.1 hx)]
    rw[oU,hG zO,if_pos rfl,h];simp
   ·have H1:i∈l:=(List.mem_cons.1 hm).resolve_left e;have:=ih hn.2 H1;rw[hG zO,if_neg e];omega
 exact key _ List.nodup_range (List.mem_range.2 hi)
section
variable{P:Program} {F:Fr} {ops:Array Oper} {K:Env→ae→Prop}
theorem iO.bP{dx:Nat}{listed:Array Bool}{env aQ:Env}{U ak:ae}(h:Le F env U aQ ak)(k:iO P F ops K dx listed aQ ak):iO P F ops K dx listed env U:=⟨fun C Q hQ a w hs=>k.out C Q hQ a w (h.out C a w hs)⟩
def Fp(P:Program)(F:Fr)(ops:Array Oper)(I:Array Bool→Env→ae→Prop)(i:Nat)(o:Oper):Prop:=
 ∀listed env U,listed.size=ops.size→I listed env U→bm listed i=false→(∀e∈o.after,Region.binds .any e=true→bm listed e.on=true)→
  ∃d ak fE dl,ed F.N o.dst=true∧On ops env o∧aq P o env U d ak∧Le F (env.put o.dst d) ak fE dl∧I (listed.setIfInBounds i true) fE dl
def u4(P:Program)(F:Fr)(ops:Array Oper)(I:Array Bool→Env→ae→Prop):Nat→List Oper→Prop
 |_,[]=>True
 |i,o::l=>Fp P F ops I i o∧u4 P F ops I (i+1) l
theorem u4.get{I:Array Bool→Env→ae→Prop}:∀{l:List Oper}{k i:Nat}{o:Oper},u4 P F ops I k l→l[i]?=some o→Fp P F ops I (k+i) o
 |[],k,i,o,_,h=>by simp at h
 |x::l,k,0,o,hs,h=>by simp at h;subst h;exact hs.1
 |x::l,k,i+1,o,hs,h=>by
  have:=u4.get hs.2 (i:=i) (o:=o) (by simpa using h);rwa[Nat.add_right_comm,Nat.add_assoc]at this
theorem iO.inv{I:Array Bool→Env→ae→Prop}(hb:zq ops=true)(rX:∀listed env U,listed.size=ops.size→(∀i,i<ops.size→bm listed i=true)→I listed env U→K env U)
  (aT:u4 P F ops I 0 ops.toList):∀(dx:Nat)(listed:Array Bool)(env:Env)(U:ae),listed.size=ops.size→uO listed ops.size≤dx→I listed env U→iO P F ops K dx listed env U:=by
 intro dx;induction dx with
 |zero=>
  intro listed env U hs hf hI;have ez:∀i,i<ops.size→bm listed i=true:=fun i hi=>by
   cases e:bm listed i with
   |true=>rfl
   |false=>have:=T' hi e;omega
  refine iO.nil ?_ (rX listed env U hs ez hI);rw[List.eq_nil_iff_forall_not_mem];intro i hi;have:=EH hs hi;rw[ez i this.1]at this;cases this.2.1
 |succ dx ih=>
  intro listed env U hs hf hI;refine⟨fun C Q hQ a w AE=>⟨fun hr=>hQ a w env U (rX listed env U hs (S0 hs hb hr) hI) AE,fun i hi=>?_⟩⟩;have hl:Region.ready .any ops listed≠[]:=fun e=>by rw[e]at hi;cases hi
  have hT:iO P F ops K (dx+1) listed env U:=iO.step rfl hl (fun i hi=>by
   obtain⟨h1,h2,h3⟩:=EH hs hi;have ho:ops[i]?=some ops[i]:=Array.getElem?_eq_getElem h1;have h4:Fp P F ops I (0+i) ops[i]:=u4.get aT (by simpa using ho);rw[Nat.zero_add]at h4;obtain⟨d,ak,fE,dl,q1,q2,q3,q4,q5⟩:=h4 listed env U hs hI h2 (h3 _ ho);exact Cd.mk' ho q1 q2 q3 (.bP q4 (ih _ _ _ (by simpa using hs) (by have:=Ua h1 hs.symm h2;omega) q5)))
  exact(hT.out C Q hQ a w AE).2 i hi
theorem J.aiu{ι:Type}{A:ι→Prop}{fE:ι→Env}{dl:ι→ae}{env:Env}{U:ae}{Q:Exit→Env→ae→Prop}{cs:List Code}{id:Nat}{l:List Oper}{c:Code}(I:Array Bool→Env→ae→Prop)(hm:P.follows .mixedOrders=true)(hb:zq l.toArray=true)
  (h0:I (Array.replicate l.length false) env U)(aT:u4 P F l.toArray I 0 l)(rX:∀listed e o,listed.size=l.length→(∀i,i<l.length→bm listed i=true)→I listed e o→∃i,A i∧Le F e o (fE i) (dl i))
  (k:∀i,A i→J P F (c::cs) Q (fE i) (dl i)):J P F (.region id l.toArray true::c::cs) Q env U:=⟨⟨fun C a w hs=>by
 refine wpIn_region_any hm ?_;have hT:iO P F l.toArray (fun e o=>∃i,A i∧Le F e o (fE i) (dl i)) l.length (Array.replicate l.length false) env U:=
  iO.inv (I:=I) hb (by simpa using rX) (by simpa using aT) l.length _ env U zS (by
   have:uO (Array.replicate l.length false) l.toArray.size≤(List.range l.toArray.size).length:=List.countP_le_length;simpa using this) h0
 have:=hT.out C (fun e a' w'=>∃aQ ak,jk (nD P F (c::cs) Q) Q e aQ ak∧St F C aQ ak a' w') (fun a w aQ ak hk hs=>by
  obtain⟨i,hA,e8⟩:=hk;exact⟨fE i,dl i,(k i hA).out,e8.out C a w hs⟩) a _ hs.drew
 simpa using this⟩⟩
end
end Go.T
namespace Go.T
open Go
abbrev lY:=Option (Bool×Bool)
abbrev gV:=List (Int×lY)
@[reducible] def cH(w:aa)(c:Int)(h:Nat→Bool)(num:D)(code:Bool):List D:=
 [.str w,.i c,.b (h 0),.b (h 1),.b (h 2),.b (h 3),.b (h 4),.b (h 5),.b (h 6),.b (h 7),.b (h 8),.b (h 9),.b (h 10),.b (h 11),.b (h 12),num,.b code]
def BQ(h:Nat→Bool)(i:Nat):Nat→Bool:=fun j=>decide (j=i)||h j
theorem LH{i:Int}(h0:0≤i)(h1:i<13):i=0∨i=1∨i=2∨i=3∨i=4∨i=5∨i=6∨i=7∨i=8∨i=9∨i=10∨i=11∨i=12:=by omega
theorem Gy{w:aa}{c:Int}{h:Nat→Bool}{num:D}{code:Bool}{i:Int}(h0:0≤i)(h1:i<13):(cH w c h num code).set (2+i.toNat) (.raw (.bool true))=cH w c (BQ h i.toNat) num code:=by
 rcases LH h0 h1 with rfl|rfl|rfl|rfl|rfl|rfl|rfl|rfl|rfl|rfl|rfl|rfl|rfl<;>rfl
theorem ZZ{w:aa}{c:Int}{h:Nat→Bool}{num:D}{code:Bool}{i:Int}(h0:0≤i)(h1:i<13):(cH w c h num code)[2+i.toNat]?=some (.b (h i.toNat)):=by
 rcases LH h0 h1 with rfl|rfl|rfl|rfl|rfl|rfl|rfl|rfl|rfl|rfl|rfl|rfl|rfl<;>rfl
theorem CP{w:aa}{c:Int}{h h':Nat→Bool}{num:D}{code:Bool}(e:∀j,j<13→h j=h' j):cH w c h num code=cH w c h' num code:=by
 simp only[cH,e 0 zO,e 1 zO,e 2 zO,e 3 zO,e 4 zO,e 5 zO,e 6 zO,e 7 zO,e 8 zO,e 9 zO,e 10 zO,e 11 zO,e 12 zO]
def bS(m:gV)(more:List Int)(j:Nat):Bool:=m.any (fun p=>decide (p.1=(j:Int)))||more.any (fun n=>decide (n=(j:Int)))
def vH(m:gV)(seen:List Nat)(j:Nat):Bool:=seen.any fun i=>decide ((m[i]?.map (·.1))=some (j:Int))
theorem acq{m:gV}{seen:List Nat}{i:Nat}{k:Int}{v:lY}(h:m[i]?=some (k,v))(hk:0≤k)(j:Nat):vH m (seen++[i]) j=BQ (vH m seen) k.toNat j:=by
 unfold vH BQ;rw[List.any_append];simp only[List.any_cons,List.any_nil,Bool.or_false,h,Option.map_some];rw[Bool.or_comm]
 congr 1
 rw[decide_eq_decide];simp only[Option.some.injEq];omega
theorem acp{m:gV}{seen:List Nat}(ez:∀j,j<m.length→j∈seen)(j:Nat):vH m seen j=m.any (fun p=>decide (p.1=(j:Int))):=by
 unfold vH;rw[Bool.eq_iff_iff,List.any_eq_true,List.any_eq_true];constructor
 ·rintro⟨i,hi,h⟩;have h:=of_decide_eq_true h;obtain⟨p,h1,h2⟩:=Option.map_eq_some_iff.1 h;exact⟨p,List.mem_of_getElem? h1,by simpa using h2⟩
 ·rintro⟨p,hp,h⟩;obtain⟨i,hi⟩:=List.getElem?_of_mem hp;exact⟨i,ez i (List.getElem?_eq_some_iff.1 hi).1,by rw[hi];simpa using h⟩
def tK(h:Nat→Bool)(pre:List Int)(j:Nat):Bool:=h j||pre.any fun n=>decide (n=(j:Int))
theorem Om{h:Nat→Bool}{pre:List Int}{n:Int}(hn:0≤n)(j:Nat):tK h (pre++[n]) j=BQ (tK h pre) n.toNat j:=by
 unfold tK BQ;rw[List.any_append];simp only[List.any_cons,List.any_nil,Bool.or_false];have:decide (n=(j:Int))=decide (j=n.toNat):=by rw[decide_eq_decide];omega
 rw[this,←Bool.or_assoc,Bool.or_comm]
theorem EW{seen:List Nat}{j:Nat}(hn:seen.Nodup)(hj:j∉seen):(seen++[j]).Nodup:=by
 rw[List.nodup_append];exact⟨hn,by simp,by simp;intro a ha e;subst e;exact hj ha⟩
theorem afo{m:gV}{seen:List Nat}{j:Nat}{kv:Int×lY}(h:m[j]?=some kv)(bw:∀j∈seen,j<m.length):∀i∈seen++[j],i<m.length:=by
 intro i hi;rcases List.mem_append.1 hi with hi|hi
 ·exact bw i hi
 ·simp at hi;subst hi;exact(List.getElem?_eq_some_iff.1 h).1
end Go.T
