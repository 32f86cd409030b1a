/-
  Contracts of the functions that the statement reaches, and the logic in which they are proved (no condition): parts SpecD12, W95, W96, LayD, Core34, Core52, Core53, SpecD13, SpecD14, W97, W98, Core54, Core55, Core56, SpecD15.
-/
import Derived.Test.YtoaceanbddegbaaGreatDoorA14
import Derived.Lib.RowBridge
set_option linter.all false
namespace Go.T
open Go
abbrev UM:=List (ae×ae)
def aI(u:UM):List ae:=u.map (·.1)
def dP(u:UM)(x:ae):UM:=if kX u x=true then u else fE u x x
structure r6(u:UM)(mL:ae→ae)(rk:ae→Nat):Prop where
 val:∀x∈aI u,fJ [] u x∈aI u
 step:∀x∈aI u,fJ [] u x≠x→mL x=mL (fJ [] u x)∧rk (fJ [] u x)<rk x
 stop:∀x∈aI u,fJ [] u x=x→mL x=x
theorem r6.AI{u:UM}{mL:ae→ae}{rk:ae→Nat}(h:r6 u mL rk):∀(n:Nat)(x:ae),rk x=n→x∈aI u→mL x∈aI u∧fJ [] u (mL x)=mL x:=by
 intro n;induction n using Nat.strongRecOn with
 |_ n ih=>
  intro x hn hx;by_cases e:fJ [] u x=x
  ·rw[h.stop x hx e];exact⟨hx,e⟩
  ·obtain⟨h1,h2⟩:=h.step x hx e;rw[h1];exact ih _ (hn▸h2) _ rfl (h.val x hx)
theorem r6.uniq{u:UM}{mL Uv:ae→ae}{rk rk':ae→Nat}(h:r6 u mL rk)(h':r6 u Uv rk'):∀(n:Nat)(x:ae),rk x=n→x∈aI u→mL x=Uv x:=by
 intro n;induction n using Nat.strongRecOn with
 |_ n ih=>
  intro x hn hx;by_cases e:fJ [] u x=x
  ·rw[h.stop x hx e,h'.stop x hx e]
  ·obtain⟨h1,h2⟩:=h.step x hx e;rw[h1,(h'.step x hx e).1];exact ih _ (hn▸h2) _ rfl (h.val x hx)
def l_(u:UM):Prop:=∃p:(ae→ae)×(ae→Nat),r6 u p.1 p.2
open Classical in
noncomputable def aJ(u:UM)(x:ae):ae:=if h:l_ u then(Classical.choose h).1 x else x
theorem Gc{u:UM}{mL:ae→ae}{rk:ae→Nat}(h:r6 u mL rk){x:ae}(hx:x∈aI u):aJ u x=mL x:=by
 have hg:l_ u:=⟨(mL,rk),h⟩;unfold aJ;rw[dif_pos hg];exact((Classical.choose_spec hg).uniq h) _ x rfl hx
theorem l_.xk{u:UM}(h:l_ u):∃rk,r6 u (aJ u) rk:=by
 obtain⟨⟨mL,rk⟩,hf⟩:=h;have key:∀x∈aI u,aJ u x=mL x:=fun x hx=>Gc hf hx;refine⟨rk,hf.val,fun x hx e=>?_,fun x hx e=>?_⟩
 ·rw[key x hx,key _ (hf.val x hx)];exact hf.step x hx e
 ·rw[key x hx];exact hf.stop x hx e
theorem Qb{u:UM}{x:ae}:kX u x=true↔x∈aI u:=by
 unfold kX aI;rw[List.any_eq_true,List.mem_map];constructor
 ·rintro⟨p,hp,h⟩;exact⟨p,hp,(of_decide_eq_true h).symm⟩
 ·rintro⟨p,hp,rfl⟩;exact⟨p,hp,by simp⟩
theorem sX{u:UM}{x v y:ae}:y∈aI (fE u x v)↔y=x∨y∈aI u:=by
 induction u with
 |nil=>simp[fE,aI]
 |cons p r ih=>
  obtain⟨a,b⟩:=p;simp only[fE];split
  ·rename_i e;subst e;simp[aI]
  ·have:=ih;simp only[aI,List.map_cons,List.mem_cons]at this⊢;rw[this];constructor
   ·rintro(h|h|h)
    ·exact .inr (.inl h)
    ·exact .inl h
    ·exact .inr (.inr h)
   ·rintro(h|h|h)
    ·exact .inr (.inl h)
    ·exact .inl h
    ·exact .inr (.inr h)
theorem zh{u:UM}{x v y:ae}:fJ [] (fE u x v) y=if y=x then v else fJ [] u y:=by
 induction u with
 |nil=>simp[fE,fJ]
 |cons p r ih=>
  obtain⟨a,b⟩:=p;simp only[fE];split
  ·rename_i e;subst e;simp only[fJ];split<;>rfl
  ·rename_i e;simp only[fJ,ih];by_cases h1:y=a
   ·subst h1;rw[if_pos rfl,if_pos rfl,if_neg (fun h=>e h.symm)]
   ·rw[if_neg h1,if_neg h1]
theorem abV:l_ []:=⟨(id,fun _=>0),fun x hx=>by simp[aI]at hx,fun x hx=>by simp[aI]at hx,fun x hx=>by simp[aI]at hx⟩
theorem DJ{u:UM}(h:l_ u)(x:ae):l_ (dP u x)∧(∀y,y∈aI (dP u x)↔y=x∨y∈aI u)∧(∀y∈aI u,aJ (dP u x) y=aJ u y)∧(x∉aI u→aJ (dP u x) x=x):=by
 unfold dP;by_cases hx:x∈aI u
 ·rw[if_pos (Qb.2 hx)];exact⟨h,fun y=>⟨.inr,fun e=>e.elim (fun e=>e▸hx) id⟩,fun _ _=>rfl,fun e=>absurd hx e⟩
 ·rw[if_neg (fun e=>hx (Qb.1 e))];obtain⟨rk,hf⟩:=h.xk;have aG:∀y∈aI u,y≠x:=fun y hy e=>hx (e▸hy);have hF:r6 (fE u x x) (fun y=>if y=x then x else aJ u y) rk:=by
   refine⟨fun y hy=>?_,fun y hy e=>?_,fun y hy e=>?_⟩
   ·rw[zh];split
    ·exact sX.2 (.inl rfl)
    ·rename_i e;exact sX.2 (.inr (hf.val y ((sX.1 hy).resolve_left e)))
   ·rw[zh]at e⊢;by_cases g:y=x
    ·rw[if_pos g]at e;exact absurd g.symm e
    ·have xK:=(sX.1 hy).resolve_left g;rw[if_neg g]at e⊢;rw[if_neg g,if_neg (aG _ (hf.val y xK))];exact hf.step y xK e
   ·rw[zh]at e;by_cases g:y=x
    ·rw[if_pos g];exact g.symm
    ·have xK:=(sX.1 hy).resolve_left g;rw[if_neg g]at e⊢;exact hf.stop y xK e
  refine⟨⟨(_,_),hF⟩,fun y=>sX,fun y hy=>?_,fun _=>?_⟩
  ·rw[Gc hF (sX.2 (.inr hy)),if_neg (aG y hy)]
  ·rw[Gc hF (sX.2 (.inl rfl)),if_pos rfl]
theorem RX{u:UM}(h:l_ u){a b:ae}(ha:a∈aI u)(hb:b∈aI u):l_ (fE u (aJ u a) (aJ u b))∧(∀y,y∈aI (fE u (aJ u a) (aJ u b))↔y∈aI u)∧
  (∀y∈aI u,aJ (fE u (aJ u a) (aJ u b)) y=if aJ u y=aJ u a then aJ u b else aJ u y):=by
 obtain⟨rk,hf⟩:=h.xk;obtain⟨ka,sa⟩:=hf.AI _ a rfl ha;obtain⟨kb,sb⟩:=hf.AI _ b rfl hb;have xA:∀y,y∈aI (fE u (aJ u a) (aJ u b))↔y∈aI u:=fun y=>sX.trans ⟨fun e=>e.elim (fun e=>e▸ka) id,.inr⟩;have ra:aJ u (aJ u a)=aJ u a:=hf.stop _ ka sa;have rb:aJ u (aJ u b)=aJ u b:=hf.stop _ kb sb;have hF:r6 (fE u (aJ u a) (aJ u b)) (fun y=>if aJ u y=aJ u a then aJ u b else aJ u y) (fun y=>if aJ u y=aJ u a then rk y+rk (aJ u b)+1 else rk y):=by
  refine⟨fun y hy=>?_,fun y hy e=>?_,fun y hy e=>?_⟩
  ·rw[xA]at hy⊢;rw[zh];split
   ·exact kb
   ·exact hf.val y hy
  ·rw[xA]at hy;rw[zh]at e⊢;by_cases g:y=aJ u a
   ·rw[if_pos g]at e⊢;have xo:aJ u b≠aJ u a:=fun e'=>e (e'.trans g.symm);subst g;simp only[ra,rb,if_true,if_neg xo];exact⟨trivial,by omega⟩
   ·rw[if_neg g]at e⊢;obtain⟨h1,h2⟩:=hf.step y hy e;simp only[←h1];refine⟨trivial,?_⟩;split<;>omega
  ·rw[xA]at hy;rw[zh]at e;by_cases g:y=aJ u a
   ·rw[if_pos g]at e;subst g;simp only[ra,if_true];exact e
   ·rw[if_neg g]at e;have h1:=hf.stop y hy e;have:aJ u y≠aJ u a:=fun e'=>g (h1.symm.trans e');simp only[if_neg this];exact h1
 exact⟨⟨(_,_),hF⟩,xA,fun y hy=>Gc hF ((xA y).2 hy)⟩
noncomputable def sV(a:ae)(u:UM)(x:ae):UM:=fE (dP u x) (aJ (dP u x) x) (aJ (dP u x) a)
noncomputable def vP(u:UM)(l:List ae):UM:=l.foldl (sV (l.headD [])) u
theorem Rr{u:UM}(h:l_ u){a x:ae}(ha:a=x∨a∈aI u):l_ (sV a u x)∧(∀y,y∈aI (sV a u x)↔y=x∨y∈aI u):=by
 obtain⟨h1,h2,h3,h4⟩:=DJ h x;obtain⟨g1,g2,g3⟩:=RX h1 ((h2 x).2 (.inl rfl)) ((h2 a).2 ha);exact⟨g1,fun y=>(g2 y).trans (h2 y)⟩
end Go.T
namespace Go.T
open Go Go.Proofs Go.Proofs.Tryz
set_option maxRecDepth 20000
theorem WU(f:Fact)(hf:qp f):Fc Tryz.prog 69 [.agg (ed f)] (.b (decide (mX f≠0))):=by
 refine bE func69 ntmps69 results69 ?_;exact go []<|oP (aj call70 rfl (X6 _ zA))<|an rfl (Sub.refl _)
theorem l9:lu Tryz.prog 9 D.str Dp eO:=aey underlying9
theorem Me(w:World)(O:Nat→Prop)(ρ:aC):V w O ρ (D.str []) (.string ⟨#[]⟩):=by simp[V,aH]
theorem MO(u:UM)(x:ae):bh Tryz.prog 102 [.dj 60,.str x] [(60,.mp (bZ D.str D.str u))] (.bl []) [(60,.mp (bZ D.str D.str (dP u x)))]:=by
 refine Pd func102 ntmps102 results102 ?_;refine go []<|oR (ait l9 (vD:=D.str) (k:=x) (d:=[]) underlying179 zeroValue9 Me rfl rfl rfl rfl)<|br (fun h1=>?_) (fun h1=>?_)
 ·exact oW (fb l9 (vD:=D.str) (k:=x) (v:=x) underlying179 rfl rfl rfl rfl rfl rfl)<|tn (Sub.refl _) (.eq rfl (by(unfold dP;(rw[if_neg (by rw[show kX u x=false by simpa using h1];simp)];done))) (g_ _ _) .nil)
 ·exact tn (Sub.refl _) (.eq rfl (by(unfold dP;(rw[if_pos (by simpa using h1)];done))) (g_ _ _) .nil)
structure ai'(u:UM)(rk:ae→Nat)(x:ae)where
 sy:ae
 hy:sy∈aI u
 hr:aJ u sy=aJ u x
theorem LF(u:UM)(hg:l_ u)(x:ae)(hx:x∈aI u):bh Tryz.prog 148 [.dj 60,.str x] [(60,.mp (bZ D.str D.str u))] (.str (aJ u x)) [(60,.mp (bZ D.str D.str u))]:=by
 refine xj func148 ntmps148 results148 ?_;obtain⟨rk,hf⟩:=hg.xk;refine go []<|U.loop (ι:=ai' u rk x) (fun sx=>[(0,.dj 60),(1,.str sx.sy)]) (fun sx=>[(60,.mp (bZ D.str D.str u))]) (fun sx=>rk sx.sy) ⟨x,hx,rfl⟩ ?_ ?_
 ·exact Le.mk rfl (.n 2 rfl rfl .nil) (.eq rfl (by rfl) (g_ _ _) .nil)
 ·rintro⟨sy,hy,hr⟩;dsimp only;refine go []<|oR (Lt l9 (vD:=D.str) (k:=sy) (d:=[]) underlying179 zeroValue9 Me rfl rfl rfl rfl)<|br (fun h1=>?_) (fun h1=>?_)
  ·exact oR (Lt l9 (vD:=D.str) (k:=sy) (d:=[]) underlying179 zeroValue9 Me rfl rfl rfl rfl)<|nx ⟨fJ [] u sy,hf.val _ hy,by rw[←hr];exact(hf.step _ hy (by simpa using h1)).1.symm⟩ (by exact(hf.step _ hy (by simpa using h1)).2) (Le.mk rfl (.n 2 rfl rfl .nil) (.eq rfl (by rfl) (g_ _ _) .nil))
  ·exact go []<|wq rfl (Sub.str (by rw[←hr];exact(hf.stop _ hy (by simpa using h1)).symm)) (.eq rfl (by rfl) (g_ _ _) .nil)
theorem acI{l:List ae}(h:l≠[]):(l.map fun s=>[D.str s])[(0:Int).toNat]?=some [.str (l.headD [])]:=by
 cases l with
 |nil=>exact absurd rfl h
 |cons a l=>rfl
structure aer(u:UM)(l:List ae)where
 pre:List ae
 rest:List ae
 u1:UM
 hx:l=pre++rest
 hu:vP u l=rest.foldl (sV (l.headD [])) u1
 ns:l_ u1
 hh:pre=[]∨l.headD []∈aI u1
theorem Rs(u:UM)(hg:l_ u)(l:List ae):bh Tryz.prog 104 [.dj 60,jN l] [(60,.mp (bZ D.str D.str u))] (.bl []) [(60,.mp (bZ D.str D.str (vP u l)))]:=by
 refine Pd func104 ntmps104 results104 ?_;refine U.ec 1 rfl (fun hb=>?_);simp only[List.length_map,aH]at hb;refine go []<|U.loop (ι:=aer u l) (fun sx=>[(0,.dj 60),(1,jN l),(6,jN l),(7,.i l.length),(8,.i sx.pre.length)]) (fun sx=>[(60,.mp (bZ D.str D.str sx.u1))]) (fun sx=>sx.rest.length) ⟨[],l,u,rfl,rfl,hg,.inl rfl⟩ ?_ ?_
 ·exact Le.mk rfl (.n 3 rfl rfl (.cons rfl (Sub.int zS) rfl (.s rfl rfl .nil))) (.eq rfl (by rfl) (g_ _ _) .nil)
 ·rintro⟨pre,rest,u1,hx,hu,ns,hh⟩;dsimp only;rcases lc hx with⟨rfl,hl⟩|⟨x,rest,rfl,hl⟩
  ·skip;exact go []<|aQ (by simp at hl⊢;omega)<|U.nil<|tn (Sub.refl _) (.eq rfl (by rw[show vP u l=u1 from hu]) (g_ _ _) .nil)
  ·have EY:l.headD []=x∨l.headD []∈aI u1:=by
     rcases hh with e|e
     ·left;rw[hx,e];rfl
     ·exact .inr e
   have hA:=DJ ns x;have Jd:=EY;exact go []<|bM zQ<|ix zO (bb (fun s=>[D.str s]) hx rfl)<|oW (eu call102 rfl (MO _ _) (.cons rfl (g_ _ _) .nil) rfl rfl)<|oW (eu call148 rfl (LF _ hA.1 _ ((hA.2.1 _).2 (.inl rfl))) (.cons rfl (g_ _ _) .nil) rfl rfl)<|ix zD (acI (l:=l) (by rw[hx];simp))<|oW (eu call148 rfl (LF _ hA.1 _ ((hA.2.1 _).2 Jd)) (.cons rfl (g_ _ _) .nil) rfl rfl)<|oW (fb l9 (vD:=D.str) (k:=(aJ (dP u1 x) x)) (v:=(aJ (dP u1 x) (l.headD []))) underlying179 rfl rfl rfl rfl rfl rfl)<|ord<|sd (aB zO)<|nx ⟨pre++[x],rest,sV (l.headD []) u1 x,by simp[hx],hu,(Rr ns EY).1,.inr (((Rr ns EY).2 _).2 EY)⟩ zS (Le.mk rfl (.n 4 rfl rfl (.cons rfl (Sub.int zS) rfl .nil)) (.eq rfl (by rfl) (g_ _ _) .nil))
end Go.T
namespace Go.Proofs
open Go.Shelf Go.RowKit Go.Lib Go.Sort
set_option maxRecDepth 20000
def Tryz.HL:Go.Shelf.Ren:=⟨fun|6=>197|10=>144|n=>n,fun|0=>0|3=>3|4=>4|22=>73|23=>9|25=>146|n=>n,fun|n=>n⟩
theorem Tryz.NY:SlLaysH.n10 Tryz.prog Tryz.HL:={
 mixed:=by kernel_rfl
 f6:=⟨Tryz.f197.name,by decide,Tryz.func197.trans (congrArg some (by kernel_rfl))⟩
 f10:=⟨Tryz.f144.name,by decide,Tryz.func144.trans (congrArg some (by kernel_rfl))⟩
 t0:=Tryz.underlying0
 a0:=Tryz.isAgg0
 z0:=Tryz.sizeOf0
 v0:=Tryz.zeroValue0
 t3:=Tryz.underlying3
 a3:=Tryz.isAgg3
 z3:=Tryz.sizeOf3
 v3:=Tryz.zeroValue3
 t4:=Tryz.underlying4
 a4:=Tryz.isAgg4
 z4:=Tryz.sizeOf4
 v4:=Tryz.zeroValue4
 t22:=Tryz.underlying73
 a22:=Tryz.isAgg73
 z22:=Tryz.sizeOf73
 v22:=Tryz.zeroValue73
 a23:=Tryz.isAgg9
 z23:=Tryz.sizeOf9
 t25:=Tryz.underlying146
 a25:=Tryz.isAgg146
 z25:=Tryz.sizeOf146
 v25:=Tryz.zeroValue146
}
end Go.Proofs
namespace Go.T
open Go Go.Proofs Go.Shelf Go.RowKit Go.Lib Go.Sort
variable[bT]
theorem T8(W:World)(bw off:Nat)(d:Array (List UInt8)):putRow encStr W bw off d=putRowK (fun s:List UInt8=>[encStr s]) 1 W bw off d:=by
 unfold putRowK putRow
 congr 1
 funext c
 unfold putCells
 congr 1
 funext k x
 simp only[size_flatK,Nat.mul_one];by_cases h:off≤k∧k<off+d.size
 ·rw[if_pos h,if_pos h,get_flatK _ _ _ _ zO];simp[Nat.mod_one]
 ·rw[if_neg h,if_neg h]
theorem holds_one{w:World}{bw off:Nat}{d:Array (List UInt8)}(h:HoldsK (fun s:List UInt8=>[encStr s]) 1 w bw off d):Holds encStr w bw off d:=by
 intro j hj;have:=h j (by simpa using hj);rw[get_flatK _ _ _ _ zO]at this;simpa[Nat.mod_one]using this
abbrev gm:={s:ae//s.length≤aH}
instance:Inhabited gm:=⟨⟨[],by simp[aH]⟩⟩
theorem Bj:GR 1 (fun x:gm=>[D.str x.1]) (fun x=>[encStr x.1]):=by
 refine⟨fun _=>rfl,fun _=>rfl,fun x v hv=>?_,fun x w O ρ vs h=>?_,fun x w O ρ=>?_⟩
 ·simp only[List.mem_cons,List.not_mem_nil,or_false]at hv;subst hv;rfl
 ·simp only[Vs,V]at h;obtain⟨_,_,rfl,h1,rfl⟩:=h;rw[h1.1]
 ·simp only[Vs,V];exact⟨_,_,rfl,⟨rfl,x.2⟩,rfl⟩
theorem Es(d:List gm):flatK (fun x:gm=>[encStr x.1]) 1 d.toArray=flatK (fun s:List UInt8=>[encStr s]) 1 (d.map Subtype.val).toArray:=by
 apply Array.ext
 ·simp
 ·intro i h1 h2;simp only[size_flatK,List.size_toArray]at h1;have hi:i<d.length:=by omega
  have e1:=get_flatK (fun x:gm=>[encStr x.1]) 1 d.toArray i (by simpa using h1);have e2:=get_flatK (fun s:List UInt8=>[encStr s]) 1 (d.map Subtype.val).toArray i (by simpa using h1);rw[getElem!_pos _ i (by simpa using h1)]at e1;rw[getElem!_pos _ i (by simpa using h1)]at e2;rw[e1,e2];simp[Nat.mod_one,hi]
theorem aj3{P:Program}{r:Ren}(L:SlLaysM.n6 P r)(id:Nat)(l:List gm)(hl:l.length<4611686018427387904)(l2:List gm)(bW:l2.map Subtype.val=(l.map Subtype.val).mergeSort fun x y=>decide (x≤y)):
  bh P (r.f 6) [.gs id l.length] [(id,.arr 1 (l.map fun x=>[D.str x.1]))] (.bl []) [(id,.arr 1 (l2.map fun x=>[D.str x.1]))]:=⟨fun w O ρ vals af dH hv=>by
 have hlen:l2.length=l.length:=by have:=congrArg List.length bW;simpa using this
 simp only[Vs,V]at hv;obtain⟨v1,us,rfl,h1,rfl⟩:=hv;rcases h1 with⟨hn,a,rfl⟩|⟨hn,aP,jt,rfl⟩
 ·obtain rfl:l=[]:=List.length_eq_zero_iff.1 hn;obtain rfl:l2=[]:=List.length_eq_zero_iff.1 hlen;refine Calls.mono (AnyM.slices_Sort_string_none L a 0 w) ?_;rintro e w' ⟨rfl,rfl⟩;exact⟨_,ρ,rfl,Tr.refl af,by simp[V,Vs]⟩
 ·have fA:aa.get [(id,Ob.arr 1 (l.map fun x=>[D.str x.1]))] id=some (.arr 1 (l.map fun x=>[D.str x.1])):=by simp[aa.get]
  have dT:(Ob.arr 1 (l.map fun x:gm=>[D.str x.1])).live=true:=by
   cases l with
   |nil=>simp at hn
   |cons x l=>rfl
  obtain⟨l',h3,zz,c,T,hb,aY,sH,sO⟩:=af.own id _ fA dT;rw[jt]at h3;cases h3;have sC:=Jx Bj hb sO;have hH:HoldsK (fun s:List UInt8=>[encStr s]) 1 w aP.b aP.off (l.map Subtype.val).toArray:=by
   unfold HoldsK at*;rw[←Es];exact sC
  have mw:aP.b<w.heap.size:=(Array.getElem?_eq_some_iff.1 hb).1;have key:=AnyM.slices_Sort_string L aP.b aP.off aP.cap (l.map Subtype.val) w (holds_one hH) mw (by simpa using hl);rw[List.length_map]at key;refine Calls.mono key ?_;rintro e w' ⟨rfl,n,os,rfl⟩;have JM:grow (putRow encStr (Sort.ahead w n) aP.b aP.off ((l.map Subtype.val).mergeSort fun x y=>decide (x≤y)).toArray) os=sortWorldK (fun x:gm=>[encStr x.1]) 1 w aP.b aP.off n l2.toArray os:=by
   rw[T8,←bW];unfold sortWorldK putRowK;rw[Es]
  rw[JM];have zr:(sortWorldK (fun x:gm=>[encStr x.1]) 1 w aP.b aP.off n l2.toArray os).heap[aP.b]?=some (.cells (putCells _root_.id aP.off (flatK (fun x:gm=>[encStr x.1]) 1 l2.toArray) c) T (0,0)):=by
   unfold sortWorldK putRowK putRow mapBlock Sort.grow Sort.ahead;simp only;rw[Array.getElem?_append_left (by simpa using mw),Array.getElem?_modify,if_pos rfl,hb];rfl
  have ud:w.heap.size≤(sortWorldK (fun x:gm=>[encStr x.1]) 1 w aP.b aP.off n l2.toArray os).heap.size:=size_sortWorldK_c _ 1 w aP.b aP.off n l2.toArray os;have IT:HoldsK (fun x:gm=>[encStr x.1]) 1 (sortWorldK (fun x:gm=>[encStr x.1]) 1 w aP.b aP.off n l2.toArray os) aP.b aP.off l2.toArray:=holdsK_sortWorldK_c _ 1 w aP.b aP.off l.toArray l2.toArray n os sC mw (by simpa using hlen);have zE:∀b,b9 ρ [(id,Ob.arr 1 (l2.map fun x=>[D.str x.1]))] b→b9 ρ [(id,Ob.arr 1 (l.map fun x=>[D.str x.1]))] b:=by
   rintro b ⟨i,o,q,g1,g2,g3,g4⟩;obtain⟨rfl,_⟩:=qt g1;exact⟨_,_,q,fA,dT,g3,g4⟩
  refine⟨_,ρ,rfl,⟨bO.refl _,ud,fun b j9 iG=>?_,fun b j9=>.inl (zE b j9),⟨fun b j9=>Nat.lt_of_lt_of_le (af.lt b j9) ud,fun i hi=>?_,fun i o g1 g2=>?_,fun i j o o' q q' g1 g2 _ _ _ _ _=>?_⟩,rfl,rfl,.inl ⟨rfl,Nat.le_add_right _ _⟩⟩,by simp[V,Vs]⟩
  ·refine Qm j9 fun e=>iG ?_;exact⟨id,_,aP,fA,dT,jt,e.symm⟩
  ·exact af.fresh i (Iy hi)
  ·obtain⟨rfl,rfl⟩:=qt g1;exact⟨aP,jt,zz,_,T,zr,by simpa[putCells]using aY,by simpa[hlen]using sH,Mz Bj IT⟩
  ·exact(qt g1).1.trans (qt g2).1.symm⟩
end Go.T
namespace Go.T
open Go Go.Proofs Go.Shelf Go.RowKit Go.Lib Go.Sort
variable[bT]
theorem UF{w:World}{O:Nat→Prop}{ρ:aC}{id:Nat}{l l3:List gm}{aP:Loc}(af:di w O ρ [(id,Ob.arr 1 (l.map fun x=>[D.str x.1]))])(hl:l≠[])(jt:ρ id=some aP)(hlen:l3.length=l.length)(n:Nat)(os:Array Obj)(h:Nat):
  Tr O w ρ [(id,Ob.arr 1 (l.map fun x=>[D.str x.1]))] (grow (putRow encStr (Sort.ahead w n) aP.b aP.off (l3.map Subtype.val).toArray) os) ρ [(id,Ob.arr 1 ((l3.map fun x=>[D.str x.1]).take h))]:=by
 have fA:aa.get [(id,Ob.arr 1 (l.map fun x=>[D.str x.1]))] id=some (.arr 1 (l.map fun x=>[D.str x.1])):=by simp[aa.get]
 have dT:(Ob.arr 1 (l.map fun x:gm=>[D.str x.1])).live=true:=by
  cases l with
  |nil=>exact absurd rfl hl
  |cons x l=>rfl
 obtain⟨l',h3,zz,c,T,hb,aY,sH,sO⟩:=af.own id _ fA dT;rw[jt]at h3;cases h3;have sC:=Jx Bj hb sO;have mw:aP.b<w.heap.size:=(Array.getElem?_eq_some_iff.1 hb).1;have JM:grow (putRow encStr (Sort.ahead w n) aP.b aP.off (l3.map Subtype.val).toArray) os=sortWorldK (fun x:gm=>[encStr x.1]) 1 w aP.b aP.off n l3.toArray os:=by
  rw[T8];unfold sortWorldK putRowK;rw[Es]
 rw[JM];have zr:(sortWorldK (fun x:gm=>[encStr x.1]) 1 w aP.b aP.off n l3.toArray os).heap[aP.b]?=some (.cells (putCells _root_.id aP.off (flatK (fun x:gm=>[encStr x.1]) 1 l3.toArray) c) T (0,0)):=by
  unfold sortWorldK putRowK putRow mapBlock Sort.grow Sort.ahead;simp only;rw[Array.getElem?_append_left (by simpa using mw),Array.getElem?_modify,if_pos rfl,hb];rfl
 have ud:w.heap.size≤(sortWorldK (fun x:gm=>[encStr x.1]) 1 w aP.b aP.off n l3.toArray os).heap.size:=size_sortWorldK_c _ 1 w aP.b aP.off n l3.toArray os;have IT:HoldsK (fun x:gm=>[encStr x.1]) 1 (sortWorldK (fun x:gm=>[encStr x.1]) 1 w aP.b aP.off n l3.toArray os) aP.b aP.off l3.toArray:=holdsK_sortWorldK_c _ 1 w aP.b aP.off l.toArray l3.toArray n os sC mw (by simpa using hlen);have zE:∀b,b9 ρ [(id,Ob.arr 1 ((l3.map fun x=>[D.str x.1]).take h))] b→b9 ρ [(id,Ob.arr 1 (l.map fun x=>[D.str x.1]))] b:=by
  rintro b ⟨i,o,q,g1,g2,g3,g4⟩;obtain⟨rfl,_⟩:=qt g1;exact⟨_,_,q,fA,dT,g3,g4⟩
 refine⟨bO.refl _,ud,fun b j9 iG=>?_,fun b j9=>.inl (zE b j9),⟨fun b j9=>Nat.lt_of_lt_of_le (af.lt b j9) ud,fun i hi=>?_,fun i o g1 g2=>?_,fun i j o o' q q' g1 g2 _ _ _ _ _=>?_⟩,rfl,rfl,.inl ⟨rfl,Nat.le_add_right _ _⟩⟩
 ·refine Qm j9 fun e=>iG ?_;exact⟨id,_,aP,fA,dT,jt,e.symm⟩
 ·exact af.fresh i (Iy hi)
 ·obtain⟨rfl,rfl⟩:=qt g1;refine⟨aP,jt,zz,_,T,zr,by simpa[putCells]using aY,?_,G7 _ _ _ (Mz Bj IT)⟩;have:l3.length≤aP.cap∧l3.length≤aH:=by simpa[hlen]using sH
  simp only[List.length_take,List.length_map];omega
 ·exact(qt g1).1.trans (qt g2).1.symm
def Ak:gm:=⟨[],by simp[aH]⟩
theorem Sw(l2:List gm)(k:Nat):(l2++List.replicate k Ak).map Subtype.val=l2.map Subtype.val++List.replicate k []:=by simp[Ak]
theorem TM{O:Nat→Prop}{w:World}{ρ:aC}{id:Nat}{l:List gm}{aP:Loc}(af:di w O ρ [(id,Ob.arr 1 (l.map fun x=>[D.str x.1]))])(hl:l≠[])(jt:ρ id=some aP):l.length≤aP.cap∧Holds encStr w aP.b aP.off (l.map Subtype.val).toArray:=by
 have fA:aa.get [(id,Ob.arr 1 (l.map fun x=>[D.str x.1]))] id=some (.arr 1 (l.map fun x=>[D.str x.1])):=by simp[aa.get]
 have dT:(Ob.arr 1 (l.map fun x:gm=>[D.str x.1])).live=true:=by
  cases l with
  |nil=>exact absurd rfl hl
  |cons x l=>rfl
 obtain⟨l',h3,zz,c,T,hb,aY,sH,sO⟩:=af.own id _ fA dT;rw[jt]at h3;cases h3;have sC:=Jx Bj hb sO;have hH:HoldsK (fun s:List UInt8=>[encStr s]) 1 w aP.b aP.off (l.map Subtype.val).toArray:=by
  unfold HoldsK at*;rw[←Es];exact sC
 exact⟨by simpa using sH.1,holds_one hH⟩
theorem NZ{P:Program}{r:Ren}(L:SlLaysH.n10 P r)(hz:∀w,(zeroValue (r.t 23)).run P w=.ok (encStr []) w){g:Nat}(eg:∀args w,(callFunc g args).run P w=.ok (.enter g args) w){p:ae→Bool}
  (hp:∀(x:ae) W,FnGives P g #[] #[encStr x] (.bool (p x)) W)(id:Nat)(l:List gm)(aG:l≠[])(hl:l.length<4611686018427387904)(l2:List gm)(bW:l2.map Subtype.val=(l.map Subtype.val).filter fun x=>!p x)
  {O:Nat→Prop}{w:World}{ρ:aC}{aP:Loc}(af:di w O ρ [(id,Ob.arr 1 (l.map fun x=>[D.str x.1]))])(jt:ρ id=some aP):
  Calls P (r.f 10) #[.slice (some ⟨aP.b,aP.off,none⟩) l.length aP.cap,.func (.func g) #[] #[]] w fun e w'=>e=.returned (.slice (some ⟨aP.b,aP.off,none⟩) l2.length aP.cap)∧Tr O w ρ [(id,Ob.arr 1 (l.map fun x=>[D.str x.1]))] w' ρ [(id,Ob.arr 1 (l2.map fun x=>[D.str x.1]))]:=by
 obtain⟨ct,hH⟩:=TM af aG jt;have key:=AnyE.slices_DeleteFunc L encStr (fun _=>rfl) p g #[] eg [] hz aP.b aP.off aP.cap (l.map Subtype.val).toArray w (fun W x _=>hp x W) (fun n os dk x _=>hp x _) hH zQ (by simpa using ct);simp only[←bW,List.size_toArray,List.length_map]at key;refine Calls.mono key ?_;rintro e w' ⟨rfl,q,rfl⟩;have gv:l2.length≤l.length:=by
  have:=congrArg List.length bW;have:=List.length_filter_le (fun x=>!p x) (l.map Subtype.val);simp only[List.length_map]at*;omega
 refine⟨rfl,?_⟩;have h1:=UF af aG jt (l3:=l2++List.replicate (l.length-l2.length) Ak) zQ q #[] l2.length;rw[grow_empty,Sw]at h1;have e2:((l2++List.replicate (l.length-l2.length) Ak).map fun x:gm=>[D.str x.1]).take l2.length=l2.map fun x=>[D.str x.1]:=by
  rw[List.map_append];exact List.take_left' (List.length_map ..)
 rw[e2]at h1;exact h1
theorem Zw{P:Program}{r:Ren}(L:SlLaysH.n10 P r)(hz:∀w,(zeroValue (r.t 23)).run P w=.ok (encStr []) w){g:Nat}(eg:∀args w,(callFunc g args).run P w=.ok (.enter g args) w){p:ae→Bool}
  (hp:∀(x:ae) W,FnGives P g #[] #[encStr x] (.bool (p x)) W)(id:Nat)(l:List gm)(hl:l.length<4611686018427387904)(l2:List gm)(bW:l2.map Subtype.val=(l.map Subtype.val).filter fun x=>!p x)(h2:l2≠[]):
  bh P (r.f 10) [.gs id l.length,.fn (.func g) [] []] [(id,.arr 1 (l.map fun x=>[D.str x.1]))] (.gs id l2.length) [(id,.arr 1 (l2.map fun x=>[D.str x.1]))]:=⟨fun w O ρ vals af dH hv=>by
 have aG:l≠[]:=by
  rintro rfl;exact h2 (List.map_eq_nil_iff.1 bW)
 simp only[Vs,V]at hv;obtain⟨v1,us,rfl,h1,v2,us2,rfl,⟨a1,a2,rfl,e1,e2⟩,rfl⟩:=hv;obtain rfl:a1=#[]:=by simpa using e1
 obtain rfl:a2=#[]:=by simpa using e2
 rcases h1 with⟨hn,a,rfl⟩|⟨hn,aP,jt,rfl⟩
 ·exact absurd (List.length_eq_zero_iff.1 hn) aG
 ·refine Calls.mono (NZ L hz eg hp id l aG hl l2 bW af jt) ?_;rintro e w' ⟨rfl,ht⟩;exact⟨_,ρ,rfl,ht,by simp only[V];exact .inr ⟨by simpa using h2,aP,jt,rfl⟩⟩⟩
theorem Zv{P:Program}{r:Ren}(L:SlLaysH.n10 P r)(hz:∀w,(zeroValue (r.t 23)).run P w=.ok (encStr []) w){g:Nat}(eg:∀args w,(callFunc g args).run P w=.ok (.enter g args) w){p:ae→Bool}
  (hp:∀(x:ae) W,FnGives P g #[] #[encStr x] (.bool (p x)) W)(id:Nat)(l:List gm)(aG:l≠[])(hl:l.length<4611686018427387904)(bW:((l.map Subtype.val).filter fun x=>!p x)=[]):
  bh P (r.f 10) [.gs id l.length,.fn (.func g) [] []] [(id,.arr 1 (l.map fun x=>[D.str x.1]))] (.snap 1 false []) [(id,.arr 1 [])]:=⟨fun w O ρ vals af dH hv=>by
 simp only[Vs,V]at hv;obtain⟨v1,us,rfl,h1,v2,us2,rfl,⟨a1,a2,rfl,e1,e2⟩,rfl⟩:=hv;obtain rfl:a1=#[]:=by simpa using e1
 obtain rfl:a2=#[]:=by simpa using e2
 rcases h1 with⟨hn,a,rfl⟩|⟨hn,aP,jt,rfl⟩
 ·exact absurd (List.length_eq_zero_iff.1 hn) aG
 ·refine Calls.mono (NZ L hz eg hp id l aG hl [] (by simpa using bW.symm) af jt) ?_;rintro e w' ⟨rfl,ht⟩;exact⟨_,ρ,rfl,ht,by simp only[V];exact⟨_,_,rfl,⟨by simp,by simp⟩,by simp,by simp⟩⟩⟩
theorem YE{P:Program}{f:Nat}
  (hk:∀(bw off cap:Nat)(zs:List (List UInt8))(w:World),Holds encStr w bw off zs.toArray→zs.length≤9223372036854775807→zs.length≤cap→Calls P f #[.slice (some ⟨bw,off,none⟩) zs.length cap] w fun e w'=>e=.returned (.slice (some ⟨bw,off,none⟩) (Lib.compact zs).length cap)∧∃q,w'=putRow encStr (Sort.ahead w q) bw off (Lib.compact zs++List.replicate (zs.length-(Lib.compact zs).length) []).toArray)
  (id:Nat)(l:List gm)(aG:l≠[])(hl:l.length<4611686018427387904)(l2:List gm)(bW:l2.map Subtype.val=Lib.compact (l.map Subtype.val))(h2:l2≠[])(gv:l2.length≤l.length):
  bh P f [.gs id l.length] [(id,.arr 1 (l.map fun x=>[D.str x.1]))] (.gs id l2.length) [(id,.arr 1 (l2.map fun x=>[D.str x.1]))]:=⟨fun w O ρ vals af dH hv=>by
 simp only[Vs,V]at hv;obtain⟨v1,us,rfl,h1,rfl⟩:=hv;rcases h1 with⟨hn,a,rfl⟩|⟨hn,aP,jt,rfl⟩
 ·exact absurd (List.length_eq_zero_iff.1 hn) aG
 ·obtain⟨ct,hH⟩:=TM af aG jt;have key:=hk aP.b aP.off aP.cap (l.map Subtype.val) w hH zQ (by simpa using ct);simp only[←bW,List.length_map]at key;refine Calls.mono key ?_;rintro e w' ⟨rfl,q,rfl⟩;have h1:=UF af aG jt (l3:=l2++List.replicate (l.length-l2.length) Ak) zQ q #[] l2.length;rw[grow_empty,Sw]at h1;have e2:((l2++List.replicate (l.length-l2.length) Ak).map fun x:gm=>[D.str x.1]).take l2.length=l2.map fun x=>[D.str x.1]:=by
   rw[List.map_append];exact List.take_left' (List.length_map ..)
  rw[e2]at h1;exact⟨_,ρ,rfl,h1,by simp only[V];exact .inr ⟨by simpa using h2,aP,jt,rfl⟩⟩⟩
end Go.T
namespace Go.T
open Go
variable[bT]
variable{P:Program} {env:Env} {dst:Option Tmp} {ty:TypeId} {pos:String} {au:Array Edge} {g:Option (Nat×Bool)}
theorem Lm{t e:TypeId}{n sz:Nat}{z:Value}{xs:List (Nat×Operand)}{dV:List (Nat×D)}{cs:List D}{rows:List (List D)}{J:aa}(id:Nat)(hu:P.underlying t=some (.slice e))(hs:∀w,(sizeOf e).run P w=.ok sz w)(hn:Nat.ble (n*sz) 16777216=true)(dz:Nat.ble n 16777216=true)
  (gb:Nat.beq (n*sz) 0=false)(hz:∀w,(zeroValue e).run P w=.ok z w)(hx:env.qU xs=some dV)
  (hf:oh (fun i=>some (i*sz,sz)) (((List.range (n*sz)).map fun x=>(z.cells.toList[x%z.cells.toList.length]?).getD default).map mK) dV=some cs)(hr:rows.flatten=cs)(hlen:rows.length=n)(gO:rows.all (fun r=>Nat.beq r.length sz)=true)(h1:oD cs=true)(hp:D.bk.dw cs=true)(hid:J.get id=none):
  aq P ⟨dst,.buildSlice t n xs.toArray,ty,pos,au,g⟩ env J (.gs id n) ((id,.arr sz rows)::J):=
 .step fun O ρ a w af hv=>by
  have hn:=Nat.le_of_ble_eq_true hn;have dz:=Nat.le_of_ble_eq_true dz;have gb:n*sz≠0:=by intro h;rw[h]at gb;simp at gb
  rw[←V5]at hf;obtain⟨h2,h3⟩:=CO (a:=a) xs dV hx (fun x hx d' h=>hv x (by simpa[Op.operands]using hx) d' h);obtain⟨c',h4,h5⟩:=Bn (fun i=>some (i*sz,sz)) dV _ _ ((Array.range (n*sz)).map (z.cells[· %z.cells.size]!)) cs h2 h3 (Vs.AG _) hf;have h8:Vs w (Ot O ρ J) dX cs c'.toList:=Vs.pure cs _ hp h5;have hl:c'.toList.length=cs.length:=h8.length;have pS:n≠0:=by rintro rfl;simp at gb
  refine⟨.slice (some ⟨w.heap.size,0,none⟩) n n,_,T.cv ρ id ⟨w.heap.size,0,n⟩,.inl ?_,Tr.born af hid (.cells c' e) rfl (fun i x h _=>h) (fun i h=>h) ?_,?_⟩
  ·have h6:¬n*sz>2^24:=by omega
   have h9:Instr.fill (fun i=>some (i*sz,sz)) ((Array.range (n*sz)).map fun x=>z.cells[x%z.cells.size]!) ((Array.map (fun x=>(x.1,a.eval x.2)) xs.toArray).toList)=some c':=by
    simpa using h4
   simp only[execOp,Instr.buildSlice,Sem.run_bind,cg hu,Result.andThen_ok,hs,if_neg h6,if_neg gb,Sem.run_pure,hz,h9];simp[newRow];try rfl
  ·intro hk;have E5:∀r∈rows,r.length=sz:=fun r pg=>by
    have:=List.all_eq_true.1 gO r pg;simpa using this
   have dN:∀(l:List (List D)),(∀r∈l,r.length=sz)→l.flatten.length=l.length*sz:=by
    intro l hl;induction l with
    |nil=>simp
    |cons a l ih=>rw[List.flatten_cons,List.length_append,hl a List.mem_cons_self,ih fun r hr=>hl r (List.mem_cons_of_mem _ hr),List.length_cons,Nat.add_mul,Nat.one_mul,Nat.add_comm]
   refine iV.grown (w:=w) (T:=e) (vs:=c'.toList) (zs:=#[]) zS ?_ (by simp[hlen]) zO (by unfold aH;omega) E5 ?_ (fun v j0=>h8.one h1 v j0) hk
   ·rw[hl,←hr,dN rows E5]
   ·rw[hr];exact h8
  ·simp only[V];exact .inr ⟨pS,_,lr ..,rfl⟩
end Go.T
namespace Go.T
open Go
inductive iq(Ls:List (List ae)):ae→ae→Prop
  |refl (x:ae):iq Ls x x
  |one {l:List ae} {x y:ae} (h:l∈Ls) (hx:x∈l) (hy:y∈l):iq Ls x y
  |symm {x y:ae} (h:iq Ls x y):iq Ls y x
  |trans {x y z:ae} (h:iq Ls x y) (h':iq Ls y z):iq Ls x z
def named(Ls:List (List ae))(x:ae):Prop:=∃l∈Ls,x∈l
theorem iq.named{Ls:List (List ae)}{x y:ae}(h:iq Ls x y):x=y∨(Go.T.named Ls x∧Go.T.named Ls y):=by
  induction h with
  |refl x=>exact .inl rfl
  |one h hx hy=>exact .inr ⟨⟨_,h,hx⟩,⟨_,h,hy⟩⟩
  |symm _ ih=>exact ih.imp Eq.symm fun h=>⟨h.2,h.1⟩
  |trans _ _ ih ph=>
    rcases ih with rfl|h
    · exact ph
    · rcases ph with rfl|h'
      · exact .inr h
      · exact .inr ⟨h.1,h'.2⟩
theorem iq.mono{Ls tB:List (List ae)}(hs:∀l∈Ls,∃l'∈tB,∀x∈l,x∈l'){x y:ae}(h:iq Ls x y):iq tB x y:=by
  induction h with
  |refl x=>exact .refl x
  |one h hx hy=>obtain⟨l',h1,h2⟩:=hs _ h;exact .one h1 (h2 _ hx) (h2 _ hy)
  |symm _ ih=>exact .symm ih
  |trans _ _ ih ph=>exact .trans ih ph
structure gk(u:UM)(Ls:List (List ae)):Prop where
  rr:l_ u
  keys:∀x,x∈aI u↔named Ls x
  conn:∀x y,x∈aI u→y∈aI u→(aJ u x=aJ u y↔iq Ls x y)
  nd:(aI u).Nodup
theorem LL{x v:ae}:∀{u:UM},(aI u).Nodup→(aI (fE u x v)).Nodup
  |[],_=>by simp[fE,aI]
  |(a,b)::r,h=>by
    have h':a∉aI r∧(aI r).Nodup:=by unfold aI at h;rwa[List.map_cons,List.nodup_cons]at h
    simp only[fE];split
    · rename_i c;subst c;unfold aI;rw[List.map_cons,List.nodup_cons];exact h'
    · rename_i c
      show((a::aI (fE r x v))).Nodup;rw[List.nodup_cons];refine⟨fun h2=>?_,LL h'.2⟩;rcases sX.1 h2 with h3|h3
      · exact c h3.symm
      · exact h'.1 h3
theorem MN{u:UM}(x:ae)(h:(aI u).Nodup):(aI (dP u x)).Nodup:=by
  unfold dP;split
  · exact h
  · exact LL h
theorem UQ:gk [] []:=⟨abV,fun x=>by simp[aI,named],fun x y hx=>by simp[aI]at hx,by simp[aI]⟩
theorem gk.mono{u:UM}{Ls tB:List (List ae)}(h:gk u Ls)(h1:∀l∈Ls,∃l'∈tB,∀x∈l,x∈l')(h2:∀l∈tB,∃l'∈Ls,∀x∈l,x∈l'):gk u tB:=
  ⟨h.rr,fun x=>(h.keys x).trans ⟨fun⟨l,hl,hx⟩=>by obtain⟨l',g1,g2⟩:=h1 l hl;exact⟨l',g1,g2 x hx⟩,fun⟨l,hl,hx⟩=>by obtain⟨l',g1,g2⟩:=h2 l hl;exact⟨l',g1,g2 x hx⟩⟩,
   fun x y hx hy=>(h.conn x y hx hy).trans ⟨iq.mono h1,iq.mono h2⟩,h.nd⟩
theorem ajz{u:UM}{pre:List ae}{Ls:List (List ae)}{a x:ae}(h:gk u (pre::Ls))(ha:a=x∨a∈pre)(pU:pre=[]∨a∈pre):gk (sV a u x) ((pre++[x])::Ls):=by
  obtain⟨a1,a2,a3,a4⟩:=DJ h.rr x;have hax:a=x∨a∈aI u:=ha.imp id fun e=>(h.keys a).2 ⟨pre,List.mem_cons_self,e⟩;have kx:x∈aI (dP u x):=(a2 x).2 (.inl rfl);have ka:a∈aI (dP u x):=(a2 a).2 hax;obtain⟨g1,g2,g3⟩:=RX a1 kx ka;have qD:a∈pre++[x]:=by
    rcases ha with rfl|e
    · simp
    · exact List.mem_append_left _ e
  have xA:∀y,y∈aI (sV a u x)↔named ((pre++[x])::Ls) y:=fun y=>by
    have:=(g2 y).trans (a2 y);refine this.trans ?_;rw[h.keys y];constructor
    · rintro(rfl|⟨l,hl,hy⟩)
      · exact⟨_,List.mem_cons_self,by simp⟩
      · rcases List.mem_cons.1 hl with rfl|hl
        · exact⟨_,List.mem_cons_self,List.mem_append_left _ hy⟩
        · exact⟨l,List.mem_cons_of_mem _ hl,hy⟩
    · rintro⟨l,hl,hy⟩
      rcases List.mem_cons.1 hl with rfl|hl
      · rcases List.mem_append.1 hy with hy|hy
        · exact .inr ⟨pre,List.mem_cons_self,hy⟩
        · exact .inl (by simpa using hy)
      · exact .inr ⟨l,List.mem_cons_of_mem _ hl,hy⟩
  have up:∀{y z:ae},iq (pre::Ls) y z→iq ((pre++[x])::Ls) y z:=fun hc=>hc.mono fun l hl=>by
    rcases List.mem_cons.1 hl with rfl|hl
    · exact⟨_,List.mem_cons_self,fun y hy=>List.mem_append_left _ hy⟩
    · exact⟨l,List.mem_cons_of_mem _ hl,fun _=>id⟩
  -- the names that belong together ahead of the link
  have E1:∀y z,y∈aI (dP u x)→z∈aI (dP u x)→aJ (dP u x) y=aJ (dP u x) z→iq ((pre++[x])::Ls) y z:=by
    intro y z hy hz e;by_cases k_:y∈aI u<;>by_cases ld:z∈aI u
    · rw[a3 y k_,a3 z ld]at e
      exact up ((h.conn y z k_ ld).1 e)
    · obtain rfl:z=x:=((a2 z).1 hz).resolve_right ld
      rw[a3 y k_,a4 ld]at e;obtain⟨rk,hf⟩:=h.rr.xk;have:=(hf.AI _ y rfl k_).1;rw[e]at this;exact absurd this ld
    · obtain rfl:y=x:=((a2 y).1 hy).resolve_right k_
      rw[a3 z ld,a4 k_]at e;obtain⟨rk,hf⟩:=h.rr.xk;have:=(hf.AI _ z rfl ld).1;rw[←e]at this;exact absurd this k_
    · obtain rfl:y=x:=((a2 y).1 hy).resolve_right k_
      obtain rfl:z=y:=((a2 z).1 hz).resolve_right ld;exact .refl _
  have kf:iq ((pre++[x])::Ls) x a:=.one List.mem_cons_self zS qD;refine⟨g1,xA,fun y z hy hz=>?_,LL (MN x h.nd)⟩;have xL:=(g2 y).1 hy;have rI:=(g2 z).1 hz;rw[show aJ (sV a u x) y=_ from g3 y xL,show aJ (sV a u x) z=_ from g3 z rI];constructor
  · intro e
    by_cases p:aJ (dP u x) y=aJ (dP u x) x<;>by_cases q:aJ (dP u x) z=aJ (dP u x) x
    · exact(E1 y x xL kx p).trans (E1 z x rI kx q).symm
    · rw[if_pos p,if_neg q]at e
      exact((E1 y x xL kx p).trans kf).trans (E1 a z ka rI e)
    · rw[if_neg p,if_pos q]at e
      exact(E1 y a xL ka e).trans ((E1 z x rI kx q).trans kf).symm
    · rw[if_neg p,if_neg q]at e
      exact E1 y z xL rI e
  · intro hc
    -- by the way the names are connected
    have key:∀{y z:ae},iq ((pre++[x])::Ls) y z→y=z∨(y∈aI (dP u x)∧z∈aI (dP u x)∧(if aJ (dP u x) y=aJ (dP u x) x then aJ (dP u x) a else aJ (dP u x) y)=(if aJ (dP u x) z=aJ (dP u x) x then aJ (dP u x) a else aJ (dP u x) z)):=by
      intro y z hc;induction hc with
      |refl y=>exact .inl rfl
      |symm _ ih=>exact ih.imp Eq.symm fun⟨p,q,r⟩=>⟨q,p,r.symm⟩
      |trans _ _ ih ph=>
        rcases ih with rfl|⟨p,q,r⟩
        · exact ph
        · rcases ph with rfl|⟨p',q',r'⟩
          · exact .inr ⟨p,q,r⟩
          · exact .inr ⟨p,q',r.trans r'⟩
      |@one l y z hl hy hz=>
        right;have val:∀w∈pre++[x],w∈aI (dP u x)∧(if aJ (dP u x) w=aJ (dP u x) x then aJ (dP u x) a else aJ (dP u x) w)=aJ (dP u x) a:=by
          intro w hw;rcases List.mem_append.1 hw with hw|hw
          · have tZ:a∈pre:=by
              rcases pU with e|e
              · rw[e]at hw;cases hw
              · exact e
            have kw:=(h.keys w).2 ⟨pre,List.mem_cons_self,hw⟩;have Rt:=(h.keys a).2 ⟨pre,List.mem_cons_self,tZ⟩;refine⟨(a2 w).2 (.inr kw),?_⟩;have e1:aJ (dP u x) w=aJ (dP u x) a:=by
              rw[a3 w kw,a3 a Rt];exact(h.conn w a kw Rt).2 (.one List.mem_cons_self hw tZ)
            split
            · rfl
            · exact e1
          · obtain rfl:w=x:=by simpa using hw
            exact⟨kx,by rw[if_pos rfl]⟩
        rcases List.mem_cons.1 hl with rfl|hl
        · exact⟨(val y hy).1,(val z hz).1,(val y hy).2.trans (val z hz).2.symm⟩
        · have ky:=(h.keys y).2 ⟨l,List.mem_cons_of_mem _ hl,hy⟩
          have kz:=(h.keys z).2 ⟨l,List.mem_cons_of_mem _ hl,hz⟩;have e1:aJ (dP u x) y=aJ (dP u x) z:=by
            rw[a3 y ky,a3 z kz];exact(h.conn y z ky kz).2 (.one (List.mem_cons_of_mem _ hl) hy hz)
          exact⟨(a2 y).2 (.inr ky),(a2 z).2 (.inr kz),by rw[e1]⟩
    rcases key hc with rfl|⟨_,_,e⟩
    · rfl
    · exact e
theorem UP{u:UM}{Ls:List (List ae)}(h:gk u Ls)(l:List ae):gk (vP u l) (l::Ls):=by
  have cE:∀{x y:ae},iq ([]::Ls) x y→iq Ls x y:=fun hc=>by
    induction hc with
    |refl x=>exact .refl x
    |symm _ ih=>exact .symm ih
    |trans _ _ ih ph=>exact .trans ih ph
    |one hl hx hy=>
      rcases List.mem_cons.1 hl with rfl|hl
      · cases hx
      · exact .one hl hx hy
  have h0:gk u ([]::Ls):=⟨h.rr,fun x=>(h.keys x).trans ⟨fun⟨l,hl,hx⟩=>⟨l,List.mem_cons_of_mem _ hl,hx⟩,fun⟨l,hl,hx⟩=>by
    rcases List.mem_cons.1 hl with rfl|hl
    · cases hx
    · exact⟨l,hl,hx⟩⟩,fun x y hx hy=>(h.conn x y hx hy).trans ⟨iq.mono fun l hl=>⟨l,List.mem_cons_of_mem _ hl,fun _=>id⟩,cE⟩,h.nd⟩
  have key:∀(rest pre:List ae)(v:UM),l=pre++rest→gk v (pre::Ls)→gk (rest.foldl (sV (l.headD [])) v) (l::Ls):=by
    intro rest;induction rest with
    |nil=>intro pre v e hv;rw[List.append_nil]at e;rw[e];exact hv
    |cons x rest ih=>
      intro pre v e hv;refine ih (pre++[x]) _ (by rw[e];simp) (ajz hv ?_ ?_)
      · rw[e];cases pre with
        |nil=>exact .inl rfl
        |cons p q=>exact .inr List.mem_cons_self
      · rw[e];cases pre with
        |nil=>exact .inl rfl
        |cons p q=>exact .inr List.mem_cons_self
  exact key l [] u rfl h0
open Go.Lib
@[reducible] def Fg(f:Fact):Bool:=decide (f.kind=9)||decide (f.kind=12)
def gh(l:List ae):List ae:=l.mergeSort fun x y=>decide (x≤y)
theorem oM(l:List ae):(gh l).Perm l:=List.mergeSort_perm l _
theorem vf{α:Type}{P:α→Prop}{l:List α}(h:∀k∈l,P k):(l.attachWith P h).map Subtype.val=l:=by
 induction l with
 |nil=>rfl
 |cons a l ih=>simp
def kY(f:Fact):List ae:=if Fg f=true then[f.ie]++[f.other]else[f.ie]
def gG(f:Fact):List ae:=kY f++f.opts.map (·.other)
def jg(f:Fact):List ae:=(gG f).filter fun s=>!decide (s=[])
def gZ(f:Fact):List ae:=Lib.compact (gh (jg f))
theorem xv(f:Fact):(kY f).length≤2∧kY f≠[]:=by
 unfold kY;split<;>simp
theorem Sz{d:Array ae}:∀(m:Nat)(x:ae),x∈compactUpTo d m↔∃j,j<m∧keeps d j=true∧d[j]! =x
 |0,x=>by simp[compactUpTo]
 |m+1,x=>by
  rw[compactUpTo_succ,List.mem_append,Sz m];constructor
  ·rintro(⟨j,h1,h2,h3⟩|h)
   ·exact⟨j,by omega,h2,h3⟩
   ·split at h
    ·exact⟨m,by omega,by assumption,(List.mem_singleton.1 h).symm⟩
    ·cases h
  ·rintro⟨j,h1,h2,h3⟩;by_cases e:j=m
   ·subst e;right;rw[if_pos h2];simp[h3]
   ·exact .inl ⟨j,by omega,h2,h3⟩
theorem Km{l:List ae}{x:ae}:x∈Lib.compact l↔x∈l:=by
 unfold Lib.compact;rw[Sz];constructor
 ·rintro⟨j,h1,_,rfl⟩;rw[getElem!_pos l.toArray j (by simpa using h1)];simp
 ·intro h;have vB:∃j,j<l.length∧l.toArray[j]! =x:=by
   obtain⟨j,hj,e⟩:=List.getElem_of_mem h;exact⟨j,hj,by rw[getElem!_pos l.toArray j (by simpa using hj)];simpa using e⟩
  have key:∀j,j<l.length→l.toArray[j]! =x→∃i,i<l.length∧keeps l.toArray i=true∧l.toArray[i]! =x:=by
   intro j;induction j with
   |zero=>intro h0 e;exact⟨0,h0,keeps_lt_one _ 0 zO,e⟩
   |succ j ih=>
    intro h0 e;by_cases e2:l.toArray[j]! =x
    ·exact ih zO e2
    ·exact⟨j+1,h0,keeps_pos (by rw[e];exact fun e3=>e2 e3.symm),e⟩
  obtain⟨j,h1,h2⟩:=vB;exact key j h1 h2
theorem xX{l:List ae}{x:ae}:x∈gh l↔x∈l:=(oM l).mem_iff
theorem afQ{f:Fact}{x:ae}:x∈gZ f↔x∈gG f∧x≠[]:=by
 unfold gZ jg;rw[Km,xX,List.mem_filter];simp
theorem JW(f:Fact):(gZ f).length≤2+f.opts.length:=by
 have h1:=compact_length_le (gh (jg f));have h2:=(oM (jg f)).length_eq;have h3:(jg f).length≤(gG f).length:=List.length_filter_le _ _;have h4:=(xv f).1;unfold gG at h3;simp only[List.length_append,List.length_map]at h3;unfold gZ;omega
theorem Rh{f:Fact}(h:jg f=[]):gZ f=[]:=by
 unfold gZ;rw[h];simp[gh,Lib.compact,compactUpTo]
open Go.Proofs Go.Proofs.Tryz Go.Shelf Go.RowKit Go.Sort
set_option maxRecDepth 20000
theorem PD(x:ae)(W:World):FnGives Tryz.prog 145 #[] #[encStr x] (.bool (decide (x=[]))) W:=by
 show Calls Tryz.prog 145 #[encStr x] W _
 go_enter func145,ntmps145
 go_wp2
 all_goals(go_ret;exact⟨by cases x<;>simp_all,0,rfl⟩)
theorem Oo:∀args w,(callFunc 145 args).run Tryz.prog w=.ok (.enter 145 args) w:=enters_of func145 (by kernel_rfl) rfl
section
variable{l:List ae} (h:∀s∈l,eO s)
theorem yn:(l.attachWith eO h).map (fun x=>[D.str x.1])=l.map fun s=>[D.str s]:=by conv=>{rhs;rw[←vf h,List.map_map]};rfl
end
theorem NX(id:Nat)(l:List ae)(h:∀s∈l,eO s)(hl:l.length<4611686018427387904)(aG:(l.filter fun s=>!decide (s=[]))≠[]):
  bh Tryz.prog 144 [.gs id l.length,.fn (.func 145) [] []] [(id,.arr 1 (l.map fun s=>[D.str s]))] (.gs id (l.filter fun s=>!decide (s=[])).length) [(id,.arr 1 ((l.filter fun s=>!decide (s=[])).map fun s=>[D.str s]))]:=by
 have h2:∀s∈l.filter (fun s=>!decide (s=[])),eO s:=fun s hs=>h s (List.mem_filter.1 hs).1;have:=Zw (r:=Tryz.HL) Tryz.NY zeroValue9 Oo PD id (l.attachWith eO h) (by simpa using hl) ((l.filter fun s=>!decide (s=[])).attachWith eO h2) (by rw[vf,vf]) (by intro e;exact aG (by simpa using congrArg (List.map Subtype.val) e));rw[yn h,yn h2,List.length_attachWith,List.length_attachWith]at this;exact this
theorem NW(id:Nat)(l:List ae)(h:∀s∈l,eO s)(h0:l≠[])(hl:l.length<4611686018427387904)(he:(l.filter fun s=>!decide (s=[]))=[]):
  bh Tryz.prog 144 [.gs id l.length,.fn (.func 145) [] []] [(id,.arr 1 (l.map fun s=>[D.str s]))] (.snap 1 false []) [(id,.arr 1 [])]:=by
 have:=Zv (r:=Tryz.HL) Tryz.NY zeroValue9 Oo PD id (l.attachWith eO h) (by intro e;exact h0 (by simpa using congrArg (List.map Subtype.val) e)) (by simpa using hl) (by rw[vf];exact he);rw[yn h,List.length_attachWith]at this;exact this
theorem LQ(id:Nat)(l:List ae)(h:∀s∈l,eO s)(hl:l.length<4611686018427387904):bh Tryz.prog 146 [.gs id l.length] [(id,.arr 1 (l.map fun s=>[D.str s]))] (.bl []) [(id,.arr 1 ((gh l).map fun s=>[D.str s]))]:=by
 have h2:∀s∈gh l,eO s:=fun s hs=>h s ((oM l).subset hs);have:=aj3 (r:=Tryz.RO) Tryz.RN id (l.attachWith eO h) (by simpa using hl) ((gh l).attachWith eO h2) (by rw[vf,vf];rfl);rw[yn h,yn h2,List.length_attachWith]at this;exact this
theorem U9:Fc Tryz.prog 146 [.snap 1 false []] (.bl []):=.qP fun w O ρ vals hg hv=>by
 simp only[Vs,V]at hv;obtain⟨_,_,rfl,⟨a,cap,rfl,_⟩,rfl⟩:=hv;refine(Tryz.slices_Sort_string_none a cap w).mono ?_;rintro e w' ⟨rfl,rfl⟩;exact⟨_,rfl,by simp[V,Vs],.refl _⟩
theorem NO(id:Nat)(l:List ae)(h:∀s∈l,eO s)(h0:l≠[])(hl:l.length<4611686018427387904)(n:Nat)(sH:l.length=n):bh Tryz.prog 147 [.gs id n] [(id,.arr 1 (l.map fun s=>[D.str s]))] (.gs id (Lib.compact l).length) [(id,.arr 1 ((Lib.compact l).map fun s=>[D.str s]))]:=by
 subst sH;have h2:∀s∈Lib.compact l,eO s:=fun s hs=>h s (Km.1 hs);have:=YE (f:=147) Tryz.slices_Compact_string id (l.attachWith eO h) (by intro e;exact h0 (by simpa using congrArg (List.map Subtype.val) e)) (by simpa using hl) ((Lib.compact l).attachWith eO h2) (by rw[vf,vf])
  (by
   intro e;obtain⟨x,hx⟩:=List.exists_mem_of_ne_nil _ h0;have e2:Lib.compact l=[]:=by simpa using congrArg (List.map Subtype.val) e
   have:=(Km (l:=l) (x:=x)).2 hx;rw[e2]at this;cases this) (by simpa using compact_length_le l)
 rw[yn h,yn h2,List.length_attachWith,List.length_attachWith]at this;exact this
theorem NN:Fc Tryz.prog 147 [.snap 1 false []] (.snap 1 false []):=.qP fun w O ρ vals hg hv=>by
 simp only[Vs,V]at hv;obtain⟨_,_,rfl,⟨a,cap,rfl,h⟩,rfl⟩:=hv;refine(Tryz.slices_Compact_string_empty a cap w).mono ?_;rintro e w' ⟨rfl,rfl⟩;exact⟨_,rfl,by simp only[V];exact⟨_,_,rfl,h⟩,.refl _⟩
end Go.T
namespace Go.T
open Go Go.Proofs Go.Proofs.Tryz
set_option maxRecDepth 20000
theorem EN{f:Fact}(h:Fg f=true):kY f=[f.ie]++[f.other]:=if_pos h
theorem EM{f:Fact}(h:Fg f=false):kY f=[f.ie]:=if_neg (by rw[h];simp)
theorem Rc{f:Fact}(hs:∀s∈gG f,eO s):(∀s∈jg f,eO s)∧(∀s∈gh (jg f),eO s):=
 ⟨fun s h=>hs s (List.mem_filter.1 h).1,fun s h=>hs s (List.mem_filter.1 (xX.1 h)).1⟩
theorem Vn(f:Fact):(jg f).length≤2+f.opts.length∧(gh (jg f)).length=(jg f).length∧(gG f).length≤2+f.opts.length:=by
 have h2:=(oM (jg f)).length_eq;have h3:(jg f).length≤(gG f).length:=List.length_filter_le _ _;have h4:=(xv f).1;have h5:(gG f).length≤2+f.opts.length:=by
  unfold gG;simp only[List.length_append,List.length_map];omega
 exact⟨by omega,h2,h5⟩
theorem U_{f:Fact}(h:jg f≠[]):gh (jg f)≠[]:=by
 intro e;have:=(oM (jg f)).length_eq;rw[e]at this;exact h (List.length_eq_zero_iff.1 this.symm)
theorem Rb(f:Fact):gG f≠[]:=by
 unfold gG;intro e;exact(xv f).2 (List.append_eq_nil_iff.1 e).1
structure Re(f:Fact)where
 pre:List ir
 rest:List ir
 hx:f.opts=pre++rest
theorem adO(f:Fact)(hn:f.opts.length≤1000000)(hs:∀s∈gG f,eO s)(aG:jg f=[]):Fc Tryz.prog 103 [.agg (ed f)] (jN (gZ f)):=by
 refine bE func103 ntmps103 results103 ?_;have hS:=Rc hs;have EO:=Vn f;refine go [1] ?_;refine U.bC (Le.h_ 1 0 rfl rfl rfl rfl) ?_;refine go []<|oW (Lm (n:=1) (rows:=[[.str f.ie]]) 1 underlying73 sizeOf9 rfl rfl rfl zeroValue9 rfl rfl rfl rfl rfl rfl rfl rfl)<|br (fun h1=>?_) (fun h1=>?_)
 ·refine oP (cm (n:=1) (rows:=[[.str f.other]]) underlying73 sizeOf9 rfl rfl rfl zeroValue9 rfl rfl rfl rfl rfl rfl rfl)<|oW (dJ 2 underlying73 underlying73 sizeOf9 typeInfo9 zeroValue9 rfl (bt:=16) rfl rfl rfl rfl zS rfl rfl zS)<|U.loop (ι:=Re f) (fun sx=>[(1,.bz (ed f)),(3,.gs 1 ((kY f++sx.pre.map (·.other))).length),(23,rW f.opts),(24,.i f.opts.length),(25,.i sx.pre.length)]) (fun sx=>[(1,.arr 1 ((kY f++sx.pre.map (·.other)).map (fun s:ae=>[D.str s])))]) (fun sx=>sx.rest.length) ⟨[],_,rfl⟩ ?_ ?_
  ·exact(Le.mk (ai:=[(2,_)]) rfl (show du _ _ [(1,_),(3,_),(23,_),(24,_),(25,_)]from(.n 5 rfl rfl .nil)) (.cons (i:=2) rfl rfl .nil)).trans<|(Le.j4 3 2 1 rfl rfl zS rfl).trans<|Le.mk rfl (.s rfl rfl (.cons rfl (Sub.gs (by rw[EN h1];rfl)) rfl (.s rfl rfl (.cons rfl (Sub.int zS) rfl (.s rfl rfl .nil))))) (.arr rfl (by rw[EN h1];rfl) .nil)
  ·rintro⟨pre,rest,hx⟩;dsimp only;have hl:=congrArg List.length hx;simp only[List.length_append]at hl;have hH:=xv f;rcases rest with _|⟨x,rest⟩
   ·have pU:gG f=(kY f++pre.map (·.other)):=by rw[gG];simp[hx]
    exact go [1]<|aQ (by simp at hl⊢;omega)<|go [1]<|oW (eu call144 (by rw[←pU];rfl) (NW 1 (gG f) hs (Rb f) zO aG) (.cons (by rw[←pU];rfl) rfl .nil) rfl rfl)<|oP (aj call146 rfl U9)<|oP (aj call147 rfl NN)<|an rfl (Sub.snap (by exact(Rh aG).symm▸rfl))
   ·simp only[List.length_cons]at hl;exact go [1]<|bM zQ<|ix zO (bb tN hx rfl)<|oP (cm (n:=1) (rows:=[[.str x.other]]) underlying73 sizeOf9 rfl rfl rfl zeroValue9 rfl rfl rfl rfl rfl rfl rfl)<|oW (dJ 2 underlying73 underlying73 sizeOf9 typeInfo9 zeroValue9 rfl (bt:=16) rfl rfl rfl rfl zS rfl rfl zQ)<|sd (aB zO)<|nx ⟨pre++[x],rest,by simp[hx]⟩ zS ((Le.mk (ai:=[(2,_)]) rfl (show du _ _ [(1,_),(3,_),(23,_),(24,_),(25,_)]from(.n 5 rfl rfl .nil)) (.cons (i:=2) rfl rfl .nil)).trans<|(Le.j4 3 2 1 rfl rfl zQ rfl).trans<|Le.mk rfl (.s rfl rfl (.cons rfl (Sub.gs zQ) rfl (.n 2 rfl rfl (.cons rfl (Sub.int zS) rfl .nil)))) (.arr rfl zS .nil))
 ·refine U.loop (ι:=Re f) (fun sx=>[(1,.bz (ed f)),(3,.gs 1 ((kY f++sx.pre.map (·.other))).length),(23,rW f.opts),(24,.i f.opts.length),(25,.i sx.pre.length)]) (fun sx=>[(1,.arr 1 ((kY f++sx.pre.map (·.other)).map (fun s:ae=>[D.str s])))]) (fun sx=>sx.rest.length) ⟨[],_,rfl⟩ ?_ ?_
  ·exact Le.mk rfl (.s rfl rfl (.cons rfl (Sub.gs (by rw[EM h1];rfl)) rfl (.s rfl rfl (.cons rfl (Sub.int zS) rfl (.s rfl rfl .nil))))) (.arr rfl (by rw[EM h1];rfl) .nil)
  ·rintro⟨pre,rest,hx⟩;dsimp only;have hl:=congrArg List.length hx;simp only[List.length_append]at hl;have hH:=xv f;rcases rest with _|⟨x,rest⟩
   ·have pU:gG f=(kY f++pre.map (·.other)):=by rw[gG];simp[hx]
    exact go [1]<|aQ (by simp at hl⊢;omega)<|go [1]<|oW (eu call144 (by rw[←pU];rfl) (NW 1 (gG f) hs (Rb f) zO aG) (.cons (by rw[←pU];rfl) rfl .nil) rfl rfl)<|oP (aj call146 rfl U9)<|oP (aj call147 rfl NN)<|an rfl (Sub.snap (by exact(Rh aG).symm▸rfl))
   ·simp only[List.length_cons]at hl;exact go [1]<|bM zQ<|ix zO (bb tN hx rfl)<|oP (cm (n:=1) (rows:=[[.str x.other]]) underlying73 sizeOf9 rfl rfl rfl zeroValue9 rfl rfl rfl rfl rfl rfl rfl)<|oW (dJ 2 underlying73 underlying73 sizeOf9 typeInfo9 zeroValue9 rfl (bt:=16) rfl rfl rfl rfl zS rfl rfl zQ)<|sd (aB zO)<|nx ⟨pre++[x],rest,by simp[hx]⟩ zS ((Le.mk (ai:=[(2,_)]) rfl (show du _ _ [(1,_),(3,_),(23,_),(24,_),(25,_)]from(.n 5 rfl rfl .nil)) (.cons (i:=2) rfl rfl .nil)).trans<|(Le.j4 3 2 1 rfl rfl zQ rfl).trans<|Le.mk rfl (.s rfl rfl (.cons rfl (Sub.gs zQ) rfl (.n 2 rfl rfl (.cons rfl (Sub.int zS) rfl .nil)))) (.arr rfl zS .nil))
structure Rf(f:Fact)where
 pre:List ir
 rest:List ir
 hx:f.opts=pre++rest
theorem adP(f:Fact)(hn:f.opts.length≤1000000)(hs:∀s∈gG f,eO s)(aG:jg f≠[]):Fc Tryz.prog 103 [.agg (ed f)] (jN (gZ f)):=by
 refine bE func103 ntmps103 results103 ?_;have hS:=Rc hs;have EO:=Vn f;refine U.seq<|rg<|.W rfl (oG 0 rfl rfl)<|.ag rfl rfl<|.nil ?_;refine U.bC (Le.h_ 1 0 rfl rfl rfl rfl) ?_;refine U.seq<|rg<|.P rfl (oH (n:=0) 9 5 underlying81 sizeOf9 rfl rfl rfl)<|.P rfl (cG isAgg9 rfl)<|.W rfl (Lm (n:=1) (rows:=[[.str f.ie]]) 1 underlying73 sizeOf9 rfl rfl rfl zeroValue9 rfl rfl rfl rfl rfl rfl rfl rfl)<|.ag rfl rfl<|.nil<|U.seq (U.seq (U.cH [.p,.p,.p,.p,.p,.p,.p,.p] ?_));refine .P rfl (oH (n:=0) 3 4 underlying81 sizeOf3 rfl rfl rfl)<|.P rfl (cG isAgg3 rfl)<|.P rfl (l5 rfl rfl)<|.mv rfl rfl<|.gF rfl (.inl rfl) rfl rfl rfl (fun hg=>pk (fun _=>oH (n:=0) 3 4 underlying81 sizeOf3 rfl rfl rfl _))<|.gF rfl (.inl rfl) rfl rfl rfl (fun hg=>pk (fun _=>cG isAgg3 (bI rfl (nt hg)) _))<|.gF rfl (.inl rfl) rfl rfl rfl (fun hg=>pk (fun _=>l5 (bI rfl (nt hg)) rfl _))<|.P rfl (rT rfl rfl)<|.nil<|U.cond rfl (fun h1=>?_) (fun h1=>?_)
 ·refine rg<|.mv rfl rfl<|.P rfl (oH (n:=0) 9 6 underlying81 sizeOf9 rfl rfl rfl)<|.P rfl (cG isAgg9 rfl)<|.P rfl (cm (n:=1) (rows:=[[.str f.other]]) underlying73 sizeOf9 rfl rfl rfl zeroValue9 rfl rfl rfl rfl rfl rfl rfl)<|.W rfl (dJ 2 underlying73 underlying73 sizeOf9 typeInfo9 zeroValue9 rfl (bt:=16) rfl rfl rfl rfl zS rfl rfl zS)<|.ag rfl rfl<|.nil<|U.seq<|U.seq<|rg<|.P rfl (oH (n:=0) 79 19 underlying81 sizeOf79 rfl rfl rfl)<|.P rfl (cG isAgg79 rfl)<|.P rfl (cC underlying79 rfl)<|.mv rfl rfl<|.nil<|U.block<|U.loop (ι:=Rf f) (fun sx=>[(1,.bz (ed f)),(3,.gs 1 ((kY f++sx.pre.map (·.other))).length),(23,rW f.opts),(24,.i f.opts.length),(25,.i sx.pre.length)]) (fun sx=>[(1,.arr 1 ((kY f++sx.pre.map (·.other)).map (fun s:ae=>[D.str s])))]) (fun sx=>sx.rest.length) ⟨[],_,rfl⟩ ?_ ?_
  ·exact(Le.mk (ai:=[(2,_)]) rfl (show du _ _ [(1,_),(3,_),(23,_),(24,_),(25,_)]from(.n 5 rfl rfl .nil)) (.cons (i:=2) rfl rfl .nil)).trans<|(Le.j4 3 2 1 rfl rfl zS rfl).trans<|Le.mk rfl (.s rfl rfl (.cons rfl (Sub.gs (by rw[EN h1];rfl)) rfl (.s rfl rfl (.cons rfl (Sub.int zS) rfl (.s rfl rfl .nil))))) (.arr rfl (by rw[EN h1];rfl) .nil)
  ·rintro⟨pre,rest,hx⟩;dsimp only;have hl:=congrArg List.length hx;simp only[List.length_append]at hl;have hH:=xv f;rcases rest with _|⟨x,rest⟩
   ·have pU:gG f=(kY f++pre.map (·.other)):=by rw[gG];simp[hx]
    refine U.seq<|rg<|.P rfl (bY rfl rfl)<|.nil<|U.seq<|U.fG rfl (by simp at hl⊢;omega)<|U.exit (fc (eY ?_));refine U.seq<|rg<|.mv rfl rfl<|.W rfl (eu call144 (by rw[←pU];rfl) (NX 1 (gG f) hs zO aG) (.cons (by rw[←pU];rfl) rfl .nil) rfl rfl)<|.ag rfl rfl<|.nil<|U.seq<|rg<|.mv rfl rfl<|.W rfl (eu call146 rfl (LQ 1 (jg f) hS.1 zO) (.cons rfl rfl .nil) rfl rfl)<|.nil<|U.seq<|rg<|.mv rfl rfl<|.W rfl (eu call147 rfl (NO 1 (gh (jg f)) hS.2 (U_ aG) zO (jg f).length EO.2.1) (.cons rfl rfl .nil) rfl rfl)<|.ag rfl rfl<|.nil ?_;refine U.bC (Le.freeze 2 1 rfl rfl zS) ?_;refine U.ret (?_);exact bS rfl (Sub.refl _)
   ·simp only[List.length_cons]at hl;refine U.seq<|rg<|.P rfl (bY rfl rfl)<|.nil<|U.seq<|U.iY rfl zQ<|U.skip<|U.seq<|U.block<|U.seq<|rg<|.P rfl (iR underlying79 sizeOf223 rfl rfl zO (bb tN hx rfl))<|.P rfl (p7 isAgg223 sizeOf223 rfl rfl)<|.W rfl (ln 3 zeroValue223 rfl)<|.W rfl (mJ sizeOf223 rfl rfl rfl rfl rfl rfl)<|.nil<|rg<|.mv rfl rfl<|.P rfl (bJ (n:=0) 9 0 underlying223 sizeOf9 rfl rfl)<|.R rfl (bP isAgg9 rfl rfl rfl)<|.P rfl (cm (n:=1) (rows:=[[.str x.other]]) underlying73 sizeOf9 rfl rfl rfl zeroValue9 rfl rfl rfl rfl rfl rfl rfl)<|.W rfl (dJ 4 underlying73 underlying73 sizeOf9 typeInfo9 zeroValue9 rfl (bt:=16) rfl rfl rfl rfl zS rfl rfl zQ)<|.ag rfl rfl<|.nil<|U.nil (dv ?_);refine rg<|.P rfl (cn rfl rfl (aB zO))<|.mv rfl rfl<|.nil<|U.nil (dx ?_);exact⟨⟨pre++[x],rest,by simp[hx]⟩,by simp,(Le.mk (ai:=[(4,_)]) rfl (show du _ _ [(1,_),(3,_),(23,_),(24,_),(25,_)]from(.n 5 rfl rfl .nil)) (.cons (i:=4) rfl rfl .nil)).trans<|(Le.j4 3 4 1 rfl rfl zQ rfl).trans<|Le.mk rfl (.s rfl rfl (.cons rfl (Sub.gs zQ) rfl (.n 2 rfl rfl (.cons rfl (Sub.int zS) rfl .nil)))) (.arr rfl zS .nil)⟩
 ·refine U.skip<|U.seq<|U.seq<|rg<|.P rfl (oH (n:=0) 79 19 underlying81 sizeOf79 rfl rfl rfl)<|.P rfl (cG isAgg79 rfl)<|.P rfl (cC underlying79 rfl)<|.mv rfl rfl<|.nil<|U.block<|U.loop (ι:=Rf f) (fun sx=>[(1,.bz (ed f)),(3,.gs 1 ((kY f++sx.pre.map (·.other))).length),(23,rW f.opts),(24,.i f.opts.length),(25,.i sx.pre.length)]) (fun sx=>[(1,.arr 1 ((kY f++sx.pre.map (·.other)).map (fun s:ae=>[D.str s])))]) (fun sx=>sx.rest.length) ⟨[],_,rfl⟩ ?_ ?_
  ·exact Le.mk rfl (.s rfl rfl (.cons rfl (Sub.gs (by rw[EM h1];rfl)) rfl (.s rfl rfl (.cons rfl (Sub.int zS) rfl (.s rfl rfl .nil))))) (.arr rfl (by rw[EM h1];rfl) .nil)
  ·rintro⟨pre,rest,hx⟩;dsimp only;have hl:=congrArg List.length hx;simp only[List.length_append]at hl;have hH:=xv f;rcases rest with _|⟨x,rest⟩
   ·have pU:gG f=(kY f++pre.map (·.other)):=by rw[gG];simp[hx]
    refine U.seq<|rg<|.P rfl (bY rfl rfl)<|.nil<|U.seq<|U.fG rfl (by simp at hl⊢;omega)<|U.exit (fc (eY ?_));refine U.seq<|rg<|.mv rfl rfl<|.W rfl (eu call144 (by rw[←pU];rfl) (NX 1 (gG f) hs zO aG) (.cons (by rw[←pU];rfl) rfl .nil) rfl rfl)<|.ag rfl rfl<|.nil<|U.seq<|rg<|.mv rfl rfl<|.W rfl (eu call146 rfl (LQ 1 (jg f) hS.1 zO) (.cons rfl rfl .nil) rfl rfl)<|.nil<|U.seq<|rg<|.mv rfl rfl<|.W rfl (eu call147 rfl (NO 1 (gh (jg f)) hS.2 (U_ aG) zO (jg f).length EO.2.1) (.cons rfl rfl .nil) rfl rfl)<|.ag rfl rfl<|.nil ?_;refine U.bC (Le.freeze 2 1 rfl rfl zS) ?_;refine U.ret (?_);exact bS rfl (Sub.refl _)
   ·simp only[List.length_cons]at hl;refine U.seq<|rg<|.P rfl (bY rfl rfl)<|.nil<|U.seq<|U.iY rfl zQ<|U.skip<|U.seq<|U.block<|U.seq<|rg<|.P rfl (iR underlying79 sizeOf223 rfl rfl zO (bb tN hx rfl))<|.P rfl (p7 isAgg223 sizeOf223 rfl rfl)<|.W rfl (ln 2 zeroValue223 rfl)<|.W rfl (mJ sizeOf223 rfl rfl rfl rfl rfl rfl)<|.nil<|rg<|.mv rfl rfl<|.P rfl (bJ (n:=0) 9 0 underlying223 sizeOf9 rfl rfl)<|.R rfl (bP isAgg9 rfl rfl rfl)<|.P rfl (cm (n:=1) (rows:=[[.str x.other]]) underlying73 sizeOf9 rfl rfl rfl zeroValue9 rfl rfl rfl rfl rfl rfl rfl)<|.W rfl (dJ 3 underlying73 underlying73 sizeOf9 typeInfo9 zeroValue9 rfl (bt:=16) rfl rfl rfl rfl zS rfl rfl zQ)<|.ag rfl rfl<|.nil<|U.nil (dv ?_);refine rg<|.P rfl (cn rfl rfl (aB zO))<|.mv rfl rfl<|.nil<|U.nil (dx ?_);exact⟨⟨pre++[x],rest,by simp[hx]⟩,by simp,(Le.mk (ai:=[(3,_)]) rfl (show du _ _ [(1,_),(3,_),(23,_),(24,_),(25,_)]from(.n 5 rfl rfl .nil)) (.cons (i:=3) rfl rfl .nil)).trans<|(Le.j4 3 3 1 rfl rfl zQ rfl).trans<|Le.mk rfl (.s rfl rfl (.cons rfl (Sub.gs zQ) rfl (.n 2 rfl rfl (.cons rfl (Sub.int zS) rfl .nil)))) (.arr rfl zS .nil)⟩
theorem adQ(f:Fact)(hn:f.opts.length≤1000000)(hs:∀s∈gG f,eO s):Fc Tryz.prog 103 [.agg (ed f)] (jN (gZ f)):=by
 by_cases h:jg f=[]
 ·exact adO f hn hs h
 ·exact adP f hn hs h
end Go.T
namespace Go.T
open Go
variable[bT]
structure FE where
 key:ae
 id:Nat
 rows:List ae
 live:Bool:=true
abbrev tq(l:List ae):List (List D):=l.map fun s=>[D.str s]
structure bu where
 next:Nat
 cL:List FE
 lo:∀e∈cL,1000≤e.id∧e.id<next
 nd:(cL.map (·.id)).Nodup
 hn:1000≤next
def bu.empty:bu:=⟨1000,[],by simp,by simp,by omega⟩
def FE.ob(e:FE):Ob:=if e.live then .arr 1 (tq e.rows)else .dead
def de(f:bu):aa:=f.cL.map fun e=>(e.id,e.ob)
def gY(f:bu):List (ae×(Nat×Nat)):=f.cL.map fun e=>(e.key,(e.id,e.rows.length))
@[reducible] def kH(p:Nat×Nat):D:=.gs p.1 p.2
theorem PB:∀(l:List FE)(i:Nat)(o:Ob),aa.get (l.map fun e=>(e.id,e.ob)) i=some o→∃e∈l,e.id=i∧e.ob=o
 |[],i,o,h=>by simp[aa.get]at h
 |e::l,i,o,h=>by
  rw[List.map_cons,aa.bf]at h;by_cases c:e.id=i
  ·rw[if_pos c]at h;cases h;exact⟨e,List.mem_cons_self,c,rfl⟩
  ·rw[if_neg c]at h;obtain⟨e',h1,h2⟩:=PB l i o h;exact⟨e',List.mem_cons_of_mem _ h1,h2⟩
theorem PC:∀(l:List FE),(l.map (·.id)).Nodup→∀e∈l,aa.get (l.map fun e=>(e.id,e.ob)) e.id=some e.ob
 |[],_,e,h=>by cases h
 |a::l,hn,e,h=>by
  rw[List.map_cons,List.nodup_cons]at hn;rw[List.map_cons,aa.bf];rcases List.mem_cons.1 h with rfl|h
  ·rw[if_pos rfl]
  ·rw[if_neg (fun c=>hn.1 (List.mem_map.2 ⟨e,h,c.symm⟩))];exact PC l hn.2 e h
theorem Bl(f:bu){i:Nat}{o:Ob}(h:(de f).get i=some o):∃e∈f.cL,e.id=i∧e.ob=o:=PB _ i o h
theorem y3(f:bu){e:FE}(h:e∈f.cL):(de f).get e.id=some e.ob:=PC _ f.nd e h
theorem H'(f:bu)(i:Nat)(hi:i<1000):(de f).get i=none:=by
 cases h:(de f).get i with
 |none=>rfl
 |some o=>
  obtain⟨e,h1,h2,_⟩:=Bl f h;have:=f.lo e h1;omega
theorem y4(f:bu)(i:Nat)(_:0≤i)(hi:i<0+100):(de f).get i=none:=H' f i zO
theorem abb(f:bu):(de f).get f.next=none:=by
 cases h:(de f).get f.next with
 |none=>rfl
 |some o=>
  obtain⟨e,h1,h2,_⟩:=Bl f h;have:=f.lo e h1;omega
theorem Ia(f:bu)(g:Nat→Bool):∀i x,(de f).get i=some x→x.okB g=true:=fun i x h=>by
 obtain⟨e,_,_,rfl⟩:=Bl f h;unfold FE.ob;split<;>rfl
theorem xg{own km:aa}(f:bu)(fj:mA 0 own=true):∀i x,(de f).get i=some x→aa.get (own++de f) i=some x∧x.okB (aa.has (km++de f))=true:=
 fun i x h=>⟨uH fj (y4 f) i x h,Ia f _ i x h⟩
def xf(f:bu)(k:ae):Option FE:=f.cL.find? fun e=>decide (k=e.key)
def jX(f:bu)(k:ae):List ae:=((xf f k).map (·.rows)).getD []
def sq(f:bu)(k:ae):Nat:=((xf f k).map (·.id)).getD 99
theorem abQ(f:bu)(k:ae):fJ (99,0) (gY f) k=(sq f k,(jX f k).length):=by
 unfold gY sq jX xf;induction f.cL with
 |nil=>rfl
 |cons e l ih=>
  simp only[List.map_cons,fJ,List.find?_cons];by_cases c:k=e.key
  ·rw[if_pos c];simp[c]
  ·rw[if_neg c,ih];simp[c]
def kO(l:List FE)(k:ae)(i:Nat)(r:List ae):List FE:=match l with
 |[]=>[⟨k,i,r,true⟩]
 |e::l=>if k=e.key then⟨k,i,r,true⟩::l else e::kO l k i r
theorem C7{k:ae}{i:Nat}{r:List ae}:∀{l:List FE}{e:FE},e∈kO l k i r→e∈l∨e=⟨k,i,r,true⟩
 |[],e,h=>.inr (List.mem_singleton.1 h)
 |a::l,e,h=>by
  simp only[kO]at h;split at h
  ·rcases List.mem_cons.1 h with h|h
   ·exact .inr h
   ·exact .inl (List.mem_cons_of_mem _ h)
  ·rcases List.mem_cons.1 h with h|h
   ·exact .inl (h▸List.mem_cons_self)
   ·exact(C7 h).imp (List.mem_cons_of_mem _) id
theorem UT{k:ae}{i:Nat}{r:List ae}:∀{l:List FE},(l.map (·.id)).Nodup→i∉l.map (·.id)→((kO l k i r).map (·.id)).Nodup
 |[],_,_=>by simp[kO]
 |a::l,hn,hi=>by
  rw[List.map_cons,List.nodup_cons]at hn;rw[List.map_cons,List.mem_cons,not_or]at hi;simp only[kO];split
  ·rw[List.map_cons,List.nodup_cons];exact⟨hi.2,hn.2⟩
  ·rw[List.map_cons,List.nodup_cons];refine⟨fun h=>?_,UT hn.2 hi.2⟩;obtain⟨e,he,e2⟩:=List.mem_map.1 h;rcases C7 he with he|rfl
   ·exact hn.1 (List.mem_map.2 ⟨e,he,e2⟩)
   ·exact hi.1 e2
def bu.add(f:bu)(k:ae)(new:List ae):bu:=⟨f.next+1,kO f.cL k f.next (jX f k++new),fun e h=>by
 rcases C7 h with h|rfl
 ·have:=f.lo e h;omega
 ·exact⟨f.hn,by simp⟩,UT f.nd (fun h=>by
 obtain⟨e,he,e2⟩:=List.mem_map.1 h;have:=f.lo e he;omega),by have:=f.hn;omega⟩
theorem OJ(f:bu)(k:ae)(new:List ae):fE (gY f) k (f.next,(jX f k).length+new.length)=gY (f.add k new):=by
 unfold bu.add gY;simp only;rw[←List.length_append];generalize jX f k++new=r;induction f.cL with
 |nil=>rfl
 |cons e l ih=>
  simp only[List.map_cons,fE,kO];split
  ·rfl
  ·rw[ih,List.map_cons]
theorem aa5(f:bu)(k:ae)(own:aa)(fj:mA 0 own=true)(IQ:own.get 99=some (.arr 1 []))(hl:∀e∈f.cL,e.live=true):aa.get (own++de f) (sq f k)=some (.arr 1 (tq (jX f k))):=by
 unfold sq jX;cases h:xf f k with
 |none=>
  rw[aa.get_append];simp only[Option.map_none,Option.getD_none,IQ];rfl
 |some e=>
  have he:e∈f.cL:=List.mem_of_find?_eq_some h;have h1:=y3 f he;have:=uH fj (y4 f) _ _ h1;simp only[Option.map_some,Option.getD_some];rw[this];unfold FE.ob;rw[if_pos (hl e he)]
theorem aa6(f:bu)(k:ae):sq f k=99∨1000≤sq f k:=by
 unfold sq;cases h:xf f k with
 |none=>exact .inl rfl
 |some e=>exact .inr (f.lo e (List.mem_of_find?_eq_some h)).1
end Go.T
namespace Go.T
open Go
variable[bT]
theorem UU{k:ae}{i:Nat}{r:List ae}:∀{l:List FE},(l.map (·.id)).Nodup→(∀e∈l,1000≤e.id)→∀{e:FE},e∈kO l k i r→e=⟨k,i,r,true⟩∨(e∈l∧e.id≠(((l.find? fun e=>decide (k=e.key)).map (·.id)).getD 99))
 |[],_,_,e,h=>.inl (List.mem_singleton.1 h)
 |a::l,hn,pd,e,h=>by
  rw[List.map_cons,List.nodup_cons]at hn;simp only[kO]at h;by_cases c:k=a.key
  ·rw[if_pos c]at h;rcases List.mem_cons.1 h with h|h
   ·exact .inl h
   ·right;refine⟨List.mem_cons_of_mem _ h,?_⟩;rw[List.find?_cons_of_pos (by simpa using c)];exact fun e2=>hn.1 (List.mem_map.2 ⟨e,h,e2⟩)
  ·rw[if_neg c]at h;rw[List.find?_cons_of_neg (by simpa using c)];rcases List.mem_cons.1 h with rfl|h
   ·right;refine⟨List.mem_cons_self,fun e2=>?_⟩;cases hf:l.find? fun e=>decide (k=e.key)with
    |none=>
     rw[hf]at e2;have:=pd e List.mem_cons_self;simp only[Option.map_none,Option.getD_none]at e2;omega
    |some x=>
     rw[hf]at e2;exact hn.1 (List.mem_map.2 ⟨x,List.mem_of_find?_eq_some hf,e2.symm⟩)
   ·rcases UU hn.2 (fun e h=>pd e (List.mem_cons_of_mem _ h)) h with h|⟨h,h2⟩
    ·exact .inl h
    ·exact .inr ⟨List.mem_cons_of_mem _ h,h2⟩
variable{P:Program} {env:Env} {dst:Option Tmp} {ty:TypeId} {pos:String} {au:Array Edge} {g:Option (Nat×Bool)}
theorem agt(w:World)(O:Nat→Prop)(ρ:aC):V w O ρ (kH (99,0)) (.slice none 0 0):=by
 simp[V]
theorem Ug{kt et:TypeId}(hK:lu P kt D.str Dp eO){t:TypeId}{x y:Operand}{m:Nat}{f:bu}{k:ae}{kd:D}{J:aa}(hu:P.underlying t=some (.map kt et))(hz:∀w,(zeroValue et).run P w=.ok (.slice none 0 0) w)
  (hx:env.op x=some (.dj m))(hy:env.op y=some kd)(rC:kd=D.str k)(ho:J.get m=some (.mp (bZ D.str kH (gY f)))):
  aq P ⟨dst,.lookup t x y false,ty,pos,au,g⟩ env J (.gs (sq f k) (jX f k).length) J:=by
 have:=Lt (dst:=dst) (ty:=ty) (pos:=pos) (au:=au) (g:=g) hK (vD:=kH) (m:=gY f) (k:=k) (d:=(99,0)) hu hz agt hx hy rC ho;rw[abQ]at this;exact this
def xe(own:aa)(f:bu)(k:ae)(new:List ae):aa:=(f.next,.arr 1 (tq (jX f k)++tq new))::(own++de f).set (sq f k) .dead
theorem T9{st xt e e':TypeId}{ti:TypeInfo}{z:Value}{bt:Nat}{x y:Operand}{ia:Bool}{own:aa}{f:bu}{k:ae}{new:List ae}(hu:P.underlying st=some (.slice e))(k9:P.underlying xt=some (.slice e'))(hs:∀w,(sizeOf e).run P w=.ok 1 w)
  (lB:∀w,(typeInfo e).run P w=.ok ti w)(hz:∀w,(zeroValue e).run P w=.ok z w)(xM:z.cells.size=1)(pR:ti.bytes=bt)(Bz:Nat.beq bt 0=false)(fj:mA 0 own=true)(IQ:own.get 99=some (.arr 1 []))(hl:∀e∈f.cL,e.live=true)
  (hx:env.op x=some (.gs (sq f k) (jX f k).length))(hy:env.op y=some (.snap 1 ia (tq new)))(qy:((jX f k).length+new.length)*bt≤140737488355328):
  aq P ⟨dst,.call ⟨.builtin .append,#[x,y],#[st,xt]⟩,ty,pos,au,g⟩ env (own++de f) (.gs f.next ((jX f k).length+new.length)) (xe own f k new):=by
 have hid:aa.get (own++de f) f.next=none:=by
  rw[aa.get_append];have:own.get f.next=none:=by
   cases h:own.get f.next with
   |none=>rfl
   |some o=>have:=sS fj f.next (aa.jl.2 ⟨o,h⟩);have:=f.hn;omega
  rw[this];exact abb f
 have:=dJ (dst:=dst) (ty:=ty) (pos:=pos) (au:=au) (g:=g) f.next hu k9 hs lB hz xM pR Bz hx (aa5 f k own fj IQ hl) zS hy hid (by simpa using qy);simp only[List.length_map]at this;exact this
theorem H9{own:aa}{f:bu}{k:ae}{new:List ae}{m:Nat}(hm:m<99):(xe own f k new).get m=aa.get (own++de f) m:=by
 have h1:=aa6 f k;have h2:=f.hn;unfold xe;rw[aa.bf,if_neg zO,aa.eG,if_neg zO]
theorem CN{own:aa}{f:bu}{m:Nat}{o:Ob}(h:own.get m=some o):aa.get (own++de f) m=some o:=by
 rw[aa.get_append,h]
theorem OM{own km:aa}{f:bu}{k:ae}{new:List ae}{m:Nat}{o':Ob}(hm:m<99)(fj:mA 0 own=true):∀i x,(de (f.add k new)).get i=some x→aa.get ((99,.arr 1 [])::(xe own f k new).set m o') i=some x∧x.okB (aa.has (km++de (f.add k new)))=true:=by
 intro i x h;refine⟨?_,Ia _ _ i x h⟩;obtain⟨e,he,rfl,rfl⟩:=Bl _ h;have pd:=(f.add k new).lo e he;rw[aa.bf,if_neg zO,aa.eG,if_neg zO];unfold xe;rw[aa.bf];rcases UU f.nd (fun e h=>(f.lo e h).1) he with rfl|⟨h1,h2⟩
 ·rw[if_pos rfl];simp[FE.ob,tq]
 ·have:=f.lo e h1;rw[if_neg zO,aa.eG,if_neg (fun c=>h2 c.symm)];exact uH fj (y4 f) _ _ (y3 f h1)
end Go.T
namespace Go.T
open Go
variable[bT]
variable{P:Program} {env:Env} {dst:Option Tmp} {ty:TypeId} {pos:String} {au:Array Edge} {g:Option (Nat×Bool)}
theorem y5{own:aa}{f:bu}{i:Nat}(h:own.get i=none)(hi:Nat.blt i 1000=true):aa.get (own++de f) i=none:=by
 rw[aa.get_append,h];exact H' f i (by simpa[Nat.blt_eq]using hi)
theorem LC(pre:aa):∀(a b:aa),aa.rest (a++b) pre=aa.rest a pre++aa.rest b pre
 |[],b=>rfl
 |(t,d)::a,b=>by
  rw[List.cons_append];simp only[aa.rest];cases pre.has t with
  |true=>rw[cond_true,cond_true];exact LC pre a b
  |false=>rw[cond_false,cond_false,LC pre a b];rfl
theorem UA{pre:aa}:∀{b:aa},(∀p∈b,pre.has p.1=false)→aa.rest b pre=b
 |[],_=>rfl
 |(t,d)::b,h=>by
  simp only[aa.rest];rw[h (t,d) List.mem_cons_self,cond_false,UA fun p hp=>h p (List.mem_cons_of_mem _ hp)]
theorem afr{pre:aa}(fj:mA 0 pre=true){i:Nat}(hi:100≤i):pre.has i=false:=by
 cases h:pre.has i with
 |false=>rfl
 |true=>have:=sS fj i h;omega
theorem aa'{f:bu}{p:Nat×Ob}(h:p∈de f):1000≤p.1:=by
 obtain⟨e,he,rfl⟩:=List.mem_map.1 h;exact(f.lo e he).1
theorem CX{fn:FuncId}{xs:List Operand}{tys:Array TypeId}{ds:List D}{r:D}{pre post own:aa}{f:bu}
  (fy:∀(args:Array Value)(w:World),(callFunc fn args).run P w=.ok (.enter fn args) w)(hx:env.lH xs=some ds)(hf:bh P fn ds pre r post)(fj:mA 0 pre=true)(hip:mA 0 post=true)(gv:jj pre (own++de f) pre)(xr:D.okB.gS pre.has ds=true)(oo:tK post (own.rest pre)=true):
  aq P ⟨dst,.call ⟨.value (.func fn),xs.toArray,tys⟩,ty,pos,au,g⟩ env (own++de f) r (post++(own.rest pre++de f)):=by
 have e1:aa.rest (own++de f) pre=own.rest pre++de f:=by
  rw[LC,UA (b:=de f) fun p hp=>afr fj (by have:=aa' hp;omega)]
 have e2:tK post (own.rest pre++de f)=true:=by
  unfold tK at oo⊢;rw[List.all_eq_true]at oo⊢;intro p hp;have h1:=oo p hp;have h2:=sS hip p.1 (IY (List.mem_map.2 ⟨p,hp,rfl⟩));simp only[Bool.not_eq_true',aa.has,aa.get_append]at h1⊢;cases h3:aa.get (own.rest pre) p.1 with
  |some o=>rw[h3]at h1;simp at h1
  |none=>simp[H' f p.1 zO]
 have:=eu (dst:=dst) (ty:=ty) (pos:=pos) (au:=au) (g:=g) (tys:=tys) (J:=own++de f) fy hx hf gv xr (by rw[e1];exact e2);rw[e1]at this;exact this
theorem aid{fn:FuncId}{xs:List Operand}{tys:Array TypeId}{ds:List D}{r:D}{own:aa}{f:bu}{e:FE}{o':Ob}(he:e∈f.cL)(fj:mA 0 own=true)
  (fy:∀(args:Array Value)(w:World),(callFunc fn args).run P w=.ok (.enter fn args) w)(hx:env.lH xs=some ds)(hf:bh P fn ds [(e.id,e.ob)] r [(e.id,o')])(xr:D.okB.gS (aa.has [(e.id,e.ob)]) ds=true):
  aq P ⟨dst,.call ⟨.value (.func fn),xs.toArray,tys⟩,ty,pos,au,g⟩ env (own++de f) r ((e.id,o')::aa.rest (own++de f) [(e.id,e.ob)]):=
 eu fy hx hf (.cons (xg (km:=own) f fj _ _ (y3 f he)).1 (by unfold FE.ob;split<;>rfl) .nil) xr (by
  simp only[tK,List.all_cons,List.all_nil,Bool.and_true,Bool.not_eq_true'];cases h:aa.has (aa.rest (own++de f) [(e.id,e.ob)]) e.id with
  |false=>rfl
  |true=>
   obtain⟨x,hx⟩:=aa.jl.1 h;rw[aa.su]at hx;simp[aa.has,aa.bf]at hx)
def qL:List FE→Nat→List FE
 |[],_=>[]
 |e::l,0=>{e with live:=false}::l
 |e::l,j+1=>e::qL l j
theorem JZ:∀(l:List FE)(j:Nat),(qL l j).map (·.id)=l.map (·.id)
 |[],_=>rfl
 |_::_,0=>rfl
 |e::l,j+1=>by rw[qL,List.map_cons,JZ l j,List.map_cons]
theorem RA:∀(l:List FE)(j:Nat),(qL l j).map (fun e=>(e.key,(e.id,e.rows.length)))=l.map (fun e=>(e.key,(e.id,e.rows.length)))
 |[],_=>rfl
 |_::_,0=>rfl
 |e::l,j+1=>by rw[qL,List.map_cons,RA l j,List.map_cons]
theorem Rz:∀(l:List FE)(j i:Nat),(qL l j)[i]?=if i=j then(l[i]?).map (fun e=>{e with live:=false})else l[i]?
 |[],_,i=>by simp[qL]
 |e::l,0,0=>by simp[qL]
 |e::l,0,i+1=>by simp[qL]
 |e::l,j+1,0=>by simp[qL]
 |e::l,j+1,i+1=>by
  simp only[qL,List.getElem?_cons_succ,Rz l j i,Nat.add_right_cancel_iff]
def bu.kill(f:bu)(j:Nat):bu:=⟨f.next,qL f.cL j,fun e h=>by
 obtain⟨e',h1,h2⟩:=List.mem_map.1 ((JZ f.cL j)▸List.mem_map.2 ⟨e,h,rfl⟩:e.id∈f.cL.map (·.id));rw[←h2];exact f.lo e' h1,by rw[JZ];exact f.nd,f.hn⟩
theorem aa8(f:bu)(j:Nat):gY (f.kill j)=gY f:=RA f.cL j
theorem RB(f:bu)(j i:Nat):(f.kill j).cL[i]?=if i=j then(f.cL[i]?).map (fun e=>{e with live:=false})else f.cL[i]?:=Rz ..
theorem OL{J km:aa}{f:bu}{j:Nat}{e:FE}(hj:f.cL[j]?=some e)(hd:J.get e.id=some .dead)(ho:∀i x,i≠e.id→(de f).get i=some x→J.get i=some x):∀i x,(de (f.kill j)).get i=some x→J.get i=some x∧x.okB (aa.has (km++de (f.kill j)))=true:=by
 intro i x h;refine⟨?_,Ia _ _ i x h⟩;obtain⟨e',he,rfl,rfl⟩:=Bl _ h;obtain⟨i',nw⟩:=List.getElem?_of_mem he;rw[RB]at nw;by_cases c:i'=j
 ·subst c;rw[if_pos rfl,hj]at nw;cases nw;exact hd
 ·rw[if_neg c]at nw;have hm:=List.mem_of_getElem? nw;refine ho _ _ (fun c2=>c ?_) (y3 f hm)
  -- ids are distinct
  have h1:(f.cL.map (·.id))[i']?=some e.id:=by rw[List.getElem?_map,nw];simp[c2]
  have h2:(f.cL.map (·.id))[j]?=some e.id:=by rw[List.getElem?_map,hj];rfl
  obtain⟨a1,b1⟩:=List.getElem?_eq_some_iff.1 h1;obtain⟨a2,b2⟩:=List.getElem?_eq_some_iff.1 h2;have hp:=List.pairwise_iff_getElem.1 f.nd;rcases Nat.lt_trichotomy i' j with h3|h3|h3
  ·exact absurd (b1.trans b2.symm) (hp _ _ a1 a2 h3)
  ·exact h3
  ·exact absurd (b2.trans b1.symm) (hp _ _ a2 a1 h3)
end Go.T
namespace Go.T
open Go
theorem ajy{u:UM}{Ls:List (List ae)}(h:gk u Ls)(x:ae):gk (dP u x) ([x]::Ls):=by
 obtain⟨a1,a2,a3,a4⟩:=DJ h.rr x;have kE:∀y,named ([x]::Ls) y↔y=x∨named Ls y:=fun y=>by
  constructor
  ·rintro⟨l,hl,hy⟩;rcases List.mem_cons.1 hl with rfl|hl
   ·exact .inl (List.mem_singleton.1 hy)
   ·exact .inr ⟨l,hl,hy⟩
  ·rintro(rfl|⟨l,hl,hy⟩)
   ·exact⟨_,List.mem_cons_self,List.mem_singleton.2 rfl⟩
   ·exact⟨l,List.mem_cons_of_mem _ hl,hy⟩
 have cE:∀{y z:ae},iq ([x]::Ls) y z→iq Ls y z:=fun hc=>by
  induction hc with
  |refl x=>exact .refl x
  |symm _ ih=>exact .symm ih
  |trans _ _ ih ph=>exact .trans ih ph
  |one hl hx hy=>
   rcases List.mem_cons.1 hl with rfl|hl
   ·rw[List.mem_singleton.1 hx,List.mem_singleton.1 hy];exact .refl _
   ·exact .one hl hx hy
 have cU:∀{y z:ae},iq Ls y z→iq ([x]::Ls) y z:=fun hc=>hc.mono fun l hl=>⟨l,List.mem_cons_of_mem _ hl,fun _=>id⟩;refine⟨a1,fun y=>(a2 y).trans ((or_congr Iff.rfl (h.keys y)).trans (kE y).symm),fun y z hy hz=>?_,MN x h.nd⟩;by_cases k_:y∈aI u<;>by_cases ld:z∈aI u
 ·rw[a3 y k_,a3 z ld];exact(h.conn y z k_ ld).trans ⟨cU,cE⟩
 ·obtain rfl:z=x:=((a2 z).1 hz).resolve_right ld;rw[a3 y k_,a4 ld];obtain⟨rk,hf⟩:=h.rr.xk;refine⟨fun e=>absurd ((hf.AI _ y rfl k_).1) (by rw[e];exact ld),fun hc=>?_⟩;rcases(cE hc).named with rfl|⟨_,h2⟩
  ·exact absurd k_ ld
  ·exact absurd ((h.keys _).2 h2) ld
 ·obtain rfl:y=x:=((a2 y).1 hy).resolve_right k_;rw[a3 z ld,a4 k_];obtain⟨rk,hf⟩:=h.rr.xk;refine⟨fun e=>absurd ((hf.AI _ z rfl ld).1) (by rw[←e];exact k_),fun hc=>?_⟩;rcases(cE hc).named with rfl|⟨h2,_⟩
  ·exact absurd ld k_
  ·exact absurd ((h.keys _).2 h2) k_
 ·obtain rfl:y=x:=((a2 y).1 hy).resolve_right k_;obtain rfl:z=y:=((a2 z).1 hz).resolve_right ld;exact⟨fun _=>.refl _,fun _=>rfl⟩
def oc(l:List Fact)(k:ae):List ae:=((l.filter fun f=>decide (f.key=k)).map gZ).flatten
theorem Y_(l:List Fact)(x:Fact)(k:ae):oc (l++[x]) k=oc l k++if x.key=k then gZ x else[]:=by
 unfold oc;by_cases h:x.key=k
 ·simp[List.filter_append,h]
 ·simp[List.filter_append,h]
structure wJ(fm:bu)(l:List Fact):Prop where
 live:∀e∈fm.cL,e.live=true
 rows:∀k,jX fm k=oc l k
 keys:∀k,k∈fm.cL.map (·.key)↔k∈l.map (·.key)
 nd:(fm.cL.map (·.key)).Nodup
theorem aa7:wJ bu.empty []:=⟨by simp[bu.empty],fun k=>rfl,by simp[bu.empty],by simp[bu.empty]⟩
theorem Gg{k:ae}{i:Nat}{r:List ae}:∀(l:List FE)(y:ae),y∈(kO l k i r).map (·.key)↔y=k∨y∈l.map (·.key)
 |[],y=>by simp[kO]
 |e::l,y=>by
  simp only[kO];split
  ·rename_i c;subst c;simp
  ·simp only[List.map_cons,List.mem_cons,Gg l y];constructor
   ·rintro(h|h|h)
    ·exact .inr (.inl h)
    ·exact .inl h
    ·exact .inr (.inr h)
   ·rintro(h|h|h)
    ·exact .inr (.inl h)
    ·exact .inl h
    ·exact .inr (.inr h)
theorem LK{k:ae}{i:Nat}{r:List ae}:∀(l:List FE),(l.map (·.key)).Nodup→((kO l k i r).map (·.key)).Nodup
 |[],_=>by simp[kO]
 |e::l,h=>by
  rw[List.map_cons,List.nodup_cons]at h;simp only[kO];split
  ·rename_i c;subst c;rw[List.map_cons,List.nodup_cons];exact h
  ·rename_i c;rw[List.map_cons,List.nodup_cons];refine⟨fun h2=>?_,LK l h.2⟩;rcases(Gg l _).1 h2 with h3|h3
   ·exact c h3.symm
   ·exact h.1 h3
theorem OI(f:bu)(k:ae)(new:List ae)(y:ae):jX (f.add k new) y=if y=k then jX f k++new else jX f y:=by
 have key:∀(r:List ae)(i:Nat)(l:List FE),((((kO l k i r).find? fun e=>decide (y=e.key)).map (·.rows)).getD [])=if y=k then r else(((l.find? fun e=>decide (y=e.key)).map (·.rows)).getD []):=by
  intro r i l;induction l with
  |nil=>
   simp only[kO,List.find?_cons];by_cases c:y=k<;>simp[c]
  |cons e l ih=>
   simp only[kO];by_cases c:k=e.key
   ·rw[if_pos c];by_cases d:y=k
    ·rw[List.find?_cons_of_pos (by simpa using d)];simp[d]
    ·rw[List.find?_cons_of_neg (by simpa using d),List.find?_cons_of_neg (by simpa[←c]using d),if_neg d]
   ·rw[if_neg c];by_cases d:y=e.key
    ·rw[List.find?_cons_of_pos (by simpa using d),List.find?_cons_of_pos (by simpa using d),if_neg (fun(e2:y=k)=>c (e2.symm.trans d))]
    ·rw[List.find?_cons_of_neg (by simpa using d),List.find?_cons_of_neg (by simpa using d),ih]
 exact key _ _ _
theorem wJ.add{fm:bu}{l:List Fact}(h:wJ fm l)(x:Fact):wJ (fm.add x.key (gZ x)) (l++[x]):=by
 refine⟨fun e he=>?_,fun k=>?_,fun k=>?_,LK _ h.nd⟩
 ·rcases C7 he with he|rfl
  ·exact h.live e he
  ·rfl
 ·rw[OI,Y_,h.rows k,h.rows x.key];by_cases c:k=x.key
  ·rw[if_pos c,if_pos c.symm,c]
  ·rw[if_neg c,if_neg (fun e=>c e.symm),List.append_nil]
 ·have:=Gg (k:=x.key) (i:=fm.next) (r:=jX fm x.key++gZ x) fm.cL k;show k∈(kO _ _ _ _).map (·.key)↔_;rw[this,h.keys k];simp[or_comm]
theorem Ap(own:aa)(f:bu):(Ob.mp (bZ D.str kH (gY f))).okB (aa.has (own++de f))=true:=by
 have hid:∀e∈f.cL,aa.has (own++de f) e.id=true:=fun e he=>by
  have h1:=y3 f he;simp only[aa.has,aa.get_append];cases own.get e.id<;>simp[h1]
 have key:∀(l:List FE),(∀e∈l,aa.has (own++de f) e.id=true)→(Ob.mp (bZ D.str kH (l.map fun e=>(e.key,(e.id,e.rows.length))))).okB (aa.has (own++de f))=true:=by
  intro l hl;induction l with
  |nil=>rfl
  |cons e l ih=>
   have h1:=ih fun e he=>hl e (List.mem_cons_of_mem _ he);have h2:=hl e List.mem_cons_self;simp only[Ob.okB,bZ,List.map_cons,D.okB.gS,D.okB,Bool.and_eq_true,Bool.true_and]at h1⊢;exact⟨h1.1,h2,h1.2⟩
 exact key f.cL hid
end Go.T
