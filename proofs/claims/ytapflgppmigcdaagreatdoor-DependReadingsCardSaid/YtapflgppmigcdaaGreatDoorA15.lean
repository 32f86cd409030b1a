/- Contracts of functions that the statement reaches, and the logic in which they are proved (no condition). -/
import Derived.Test.YtapflgppmigcdaaGreatDoorA14
import Derived.Shelf.SlicesE.DeleteFunc
import Derived.Lib.RowBridge
set_option linter.all false
set_option maxRecDepth 20000
namespace Go.T
open Go
abbrev UM:=List (aa×aa)
def aE(u:UM):List aa:=u.map (·.1)
def dU(u:UM)(x:aa):UM:=if j4 u x=true then u else eD u x x
structure sM(u:UM)(nl:aa->aa)(rk:aa->Nat):Prop where
 val:∀x∈aE u,ei [] u x∈aE u
 step:∀x∈aE u,ei [] u x≠x->nl x=nl (ei [] u x)/\rk (ei [] u x)<rk x
 stop:∀x∈aE u,ei [] u x=x->nl x=x
def sM.Cg{u:UM}{nl:aa->aa}{rk:aa->Nat}(h:sM u nl rk):∀(n:Nat)(x:aa),rk x=n->x∈aE u->nl x∈aE u/\ei [] u (nl x)=nl x:=by
 intro n;induction n using Nat.strongRecOn with
 |_ n ih=>
  intro x hn hx;by_cases e:ei [] u x=x
  ·rw[h.stop x hx e];exact⟨hx,e⟩
  ·obtain⟨h1,h2⟩:=h.step x hx e;rw[h1];exact ih _ (hn▸h2) _ rfl (h.val x hx)
def sM.uniq{u:UM}{nl Z1:aa->aa}{rk rk':aa->Nat}(h:sM u nl rk)(h':sM u Z1 rk'):∀(n:Nat)(x:aa),rk x=n->x∈aE u->nl x=Z1 x:=by
 intro n;induction n using Nat.strongRecOn with
 |_ n ih=>
  intro x hn hx;by_cases e:ei [] u x=x
  ·rw[h.stop x hx e,h'.stop x hx e]
  ·obtain⟨h1,h2⟩:=h.step x hx e;rw[h1,(h'.step x hx e).1];exact ih _ (hn▸h2) _ rfl (h.val x hx)
def my(u:UM):Prop:=∃p:(aa->aa)×(aa->Nat),sM u p.1 p.2
open Classical in
noncomputable def aI(u:UM)(x:aa):aa:=if h:my u then(Classical.choose h).1 x else x
def Jm{u:UM}{nl:aa->aa}{rk:aa->Nat}(h:sM u nl rk){x:aa}(hx:x∈aE u):aI u x=nl x:=by
 have hg:my u:=⟨(nl,rk),h⟩;unfold aI;rw[dif_pos hg];exact((GY hg).uniq h) _ x rfl hx
def my.yk{u:UM}(h:my u):∃rk,sM u (aI u) rk:=by
 obtain⟨⟨nl,rk⟩,hf⟩:=h;have key:∀x∈aE u,aI u x=nl x:=fun x hx=>Jm hf hx;refine⟨rk,hf.val,fun x hx e=>?_,fun x hx e=>?_⟩
 ·rw[key x hx,key _ (hf.val x hx)];exact hf.step x hx e
 ·rw[key x hx];exact hf.stop x hx e
def UN{u:UM}{x:aa}:j4 u x=true↔x∈aE u:=by
 unfold j4 aE;rw[j_,dh];constructor
 ·rintro⟨p,hp,h⟩;exact⟨p,hp,(aG h).symm⟩
 ·rintro⟨p,hp,rfl⟩;exact⟨p,hp,by simp⟩
def tA{u:UM}{x v y:aa}:y∈aE (eD u x v)↔y=x\/y∈aE u:=by
 induction u with
 |nil=>simp[eD,aE]
 |cons p r ih=>
  obtain⟨a,b⟩:=p;simp only[eD];split
  ·rename_i e;subst e;simp[aE]
  ·have:=ih;simp only[aE,cP,cr]at this|-;rw[this];constructor
   ·rintro(h|h|h)
    ·exact .inr (.inl h)
    ·exact .inl h
    ·exact .inr (.inr h)
   ·rintro(h|h|h)
    ·exact .inr (.inl h)
    ·exact .inl h
    ·exact .inr (.inr h)
def AK{u:UM}{x v y:aa}:ei [] (eD u x v) y=if y=x then v else ei [] u y:=by
 induction u with
 |nil=>simp[eD,ei]
 |cons p r ih=>
  obtain⟨a,b⟩:=p;simp only[eD];split
  ·rename_i e;subst e;simp only[ei];split<;>rfl
  ·rename_i e;simp only[ei,ih];by_cases h1:y=a
   ·subst h1;rw[aV rfl,aV rfl,aF (fun h=>e h.symm)]
   ·rw[aF h1,aF h1]
def ah4:my []:=⟨(id,fun _=>0),fun x hx=>by simp[aE]at hx,fun x hx=>by simp[aE]at hx,fun x hx=>by simp[aE]at hx⟩
def FU{u:UM}(h:my u)(x:aa):my (dU u x)/\(∀y,y∈aE (dU u x)↔y=x\/y∈aE u)/\(∀y∈aE u,aI (dU u x) y=aI u y)/\(x∉aE u->aI (dU u x) x=x):=by
 unfold dU;by_cases hx:x∈aE u
 ·rw[aV (UN.2 hx)];exact⟨h,fun y=>⟨.inr,fun e=>e.elim (fun e=>e▸hx) id⟩,fun _ _=>rfl,fun e=>absurd hx e⟩
 ·rw[aF (fun e=>hx (UN.1 e))];obtain⟨rk,hf⟩:=h.yk;have aC:∀y∈aE u,y≠x:=fun y hy e=>hx (e▸hy);have hF:sM (eD u x x) (fun y=>if y=x then x else aI u y) rk:=by
   refine⟨fun y hy=>?_,fun y hy e=>?_,fun y hy e=>?_⟩
   ·rw[AK];split
    ·exact tA.2 (.inl rfl)
    ·rename_i e;exact tA.2 (.inr (hf.val y ((tA.1 hy).resolve_left e)))
   ·rw[AK]at e|-;by_cases g:y=x
    ·rw[aV g]at e;exact absurd g.symm e
    ·have yQ:=(tA.1 hy).resolve_left g;rw[aF g]at e|-;rw[aF g,aF (aC _ (hf.val y yQ))];exact hf.step y yQ e
   ·rw[AK]at e;by_cases g:y=x
    ·rw[aV g];exact g.symm
    ·have yQ:=(tA.1 hy).resolve_left g;rw[aF g]at e|-;exact hf.stop y yQ e
  refine⟨⟨(_,_),hF⟩,fun y=>tA,fun y hy=>?_,fun _=>?_⟩
  ·rw[Jm hF (tA.2 (.inr hy)),aF (aC y hy)]
  ·rw[Jm hF (tA.2 (.inl rfl)),aV rfl]
def Xa{u:UM}(h:my u){a b:aa}(ha:a∈aE u)(hb:b∈aE u):my (eD u (aI u a) (aI u b))/\(∀y,y∈aE (eD u (aI u a) (aI u b))↔y∈aE u)/\
  (∀y∈aE u,aI (eD u (aI u a) (aI u b)) y=if aI u y=aI u a then aI u b else aI u y):=by
 obtain⟨rk,hf⟩:=h.yk;obtain⟨ka,sa⟩:=hf.Cg _ a rfl ha;obtain⟨kb,sb⟩:=hf.Cg _ b rfl hb;have yD:∀y,y∈aE (eD u (aI u a) (aI u b))↔y∈aE u:=fun y=>tA.trans ⟨fun e=>e.elim (fun e=>e▸ka) id,.inr⟩;have ra:aI u (aI u a)=aI u a:=hf.stop _ ka sa;have rb:aI u (aI u b)=aI u b:=hf.stop _ kb sb;have hF:sM (eD u (aI u a) (aI u b)) (fun y=>if aI u y=aI u a then aI u b else aI u y) (fun y=>if aI u y=aI u a then rk y+rk (aI u b)+1 else rk y):=by
  refine⟨fun y hy=>?_,fun y hy e=>?_,fun y hy e=>?_⟩
  ·rw[yD]at hy|-;rw[AK];split
   ·exact kb
   ·exact hf.val y hy
  ·rw[yD]at hy;rw[AK]at e|-;by_cases g:y=aI u a
   ·rw[aV g]at e|-;have wL:aI u b≠aI u a:=fun e'=>e (e'.trans g.symm);subst g;simp only[ra,rb,mX,aF wL];exact⟨trivial,by omega⟩
   ·rw[aF g]at e|-;obtain⟨h1,h2⟩:=hf.step y hy e;simp only[<-h1];refine⟨trivial,?_⟩;split<;>omega
  ·rw[yD]at hy;rw[AK]at e;by_cases g:y=aI u a
   ·rw[aV g]at e;subst g;simp only[ra,mX];exact e
   ·rw[aF g]at e;have h1:=hf.stop y hy e;have:aI u y≠aI u a:=fun e'=>g (h1.symm.trans e');simp only[aF this];exact h1
 exact⟨⟨(_,_),hF⟩,yD,fun y hy=>Jm hF ((yD y).2 hy)⟩
noncomputable def tz(a:aa)(u:UM)(x:aa):UM:=eD (dU u x) (aI (dU u x) x) (aI (dU u x) a)
noncomputable def w9(u:UM)(l:List aa):UM:=l.foldl (tz (l.headD [])) u
def Wi{u:UM}(h:my u){a x:aa}(ha:a=x\/a∈aE u):my (tz a u x)/\(∀y,y∈aE (tz a u x)↔y=x\/y∈aE u):=by
 obtain⟨h1,h2,h3,h4⟩:=FU h x;obtain⟨g1,g2,g3⟩:=Xa h1 ((h2 x).2 (.inl rfl)) ((h2 a).2 ha);exact⟨g1,fun y=>(g2 y).trans (h2 y)⟩
end Go.T
namespace Go.T
open Go Go.Proofs Go.Proofs.Tryz
def acF(f:Fact)(hf:lM f):Fc prog 43 [.agg (aJ f)] (.b (decide (gy f≠0))):=by
 refine ay func43 ntmps43 results43 ?_;exact go []<|oP (ah call44 rfl (Ry _ zA))<|af rfl (Sub.refl _)
def km:lC prog 9 D.str Fu dX:=akU underlying9
def Qn(w:World)(O:Nat->Prop)(ρ:aA):V w O ρ (D.str []) (.string ⟨#[]⟩):=by simp[V,aD]
def QW(u:UM)(x:aa):dB prog 90 [.cL 60,.str x] [(60,.mp (bP D.str D.str u))] (.a_ []) [(60,.mp (bP D.str D.str (dU u x)))]:=by
 refine LU func90 ntmps90 results90 ?_;refine go []<|oR (apo km (vD:=D.str) (k:=x) (d:=[]) underlying128 zeroValue9 Qn rfl rfl rfl rfl)<|br (fun h1=>?_) (fun h1=>?_)
 ·exact oW (eV km (vD:=D.str) (k:=x) (v:=x) underlying128 rfl rfl rfl rfl rfl rfl)<|Jk (Sub.refl _) (.eq rfl (by(unfold dU;(rw[aF (by rw[show j4 u x=false by simpa using h1];simp)];done))) (gN _ _) .nil)
 ·exact Jk (Sub.refl _) (.eq rfl (by(unfold dU;(rw[aV (by simpa using h1)];done))) (gN _ _) .nil)
structure aqc(u:UM)(rk:aa->Nat)(x:aa)where
 sy:aa
 hy:sy∈aE u
 hr:aI u sy=aI u x
def PN(u:UM)(hg:my u)(x:aa)(hx:x∈aE u):dB prog 129 [.cL 60,.str x] [(60,.mp (bP D.str D.str u))] (.str (aI u x)) [(60,.mp (bP D.str D.str u))]:=by
 refine uF func129 ntmps129 results129 ?_;obtain⟨rk,hf⟩:=hg.yk;refine go []<|U.loop (ι:=aqc u rk x) (fun sx=>[(0,.cL 60),(1,.str sx.sy)]) (fun sx=>[(60,.mp (bP D.str D.str u))]) (fun sx=>rk sx.sy) ⟨x,hx,rfl⟩ ?_ ?_
 ·exact Le.mk rfl (.n 2 rfl rfl .nil) (.eq rfl (by rfl) (gN _ _) .nil)
 ·rintro⟨sy,hy,hr⟩;dsimp only;refine go []<|oR (EW km (vD:=D.str) (k:=sy) (d:=[]) underlying128 zeroValue9 Qn rfl rfl rfl rfl)<|br (fun h1=>?_) (fun h1=>?_)
  ·exact oR (EW km (vD:=D.str) (k:=sy) (d:=[]) underlying128 zeroValue9 Qn rfl rfl rfl rfl)<|nx ⟨ei [] u sy,hf.val _ hy,by rw[<-hr];exact(hf.step _ hy (by simpa using h1)).1.symm⟩ (by exact(hf.step _ hy (by simpa using h1)).2) (Le.mk rfl (.n 2 rfl rfl .nil) (.eq rfl (by rfl) (gN _ _) .nil))
  ·exact go []<|ua rfl (Sub.str (by rw[<-hr];exact(hf.stop _ hy (by simpa using h1)).symm)) (.eq rfl (by rfl) (gN _ _) .nil)
def ai'{l:List aa}(h:l≠[]):(l.map fun s=>[D.str s])[(0:Int).toNat]?=some [.str (l.headD [])]:=by
 cases l with
 |nil=>exact absurd rfl h
 |cons a l=>rfl
structure akL(u:UM)(l:List aa)where
 pre:List aa
 rest:List aa
 u1:UM
 hx:l=pre++rest
 hu:w9 u l=rest.foldl (tz (l.headD [])) u1
 nM:my u1
 hh:pre=[]\/l.headD []∈aE u1
def Wk(u:UM)(hg:my u)(l:List aa):dB prog 91 [.cL 60,bg l] [(60,.mp (bP D.str D.str u))] (.a_ []) [(60,.mp (bP D.str D.str (w9 u l)))]:=by
 refine LU func91 ntmps91 results91 ?_;refine U.eh 1 rfl (fun hb=>?_);simp only[bB,aD]at hb;refine go []<|U.loop (ι:=akL u l) (fun sx=>[(0,.cL 60),(1,bg l),(6,bg l),(7,.i l.length),(8,.i sx.pre.length)]) (fun sx=>[(60,.mp (bP D.str D.str sx.u1))]) (fun sx=>sx.rest.length) ⟨[],l,u,rfl,rfl,hg,.inl rfl⟩ ?_ ?_
 ·exact Le.mk rfl (.n 3 rfl rfl (.cons rfl (Sub.int zS) rfl (.s rfl rfl .nil))) (.eq rfl (by rfl) (gN _ _) .nil)
 ·rintro⟨pre,rest,u1,hx,hu,nM,hh⟩;dsimp only;rcases lc hx with⟨rfl,hl⟩|⟨x,rest,rfl,hl⟩
  ·exact go []<|aH (by simp at hl|-;omega)<|U.nil<|Jk (Sub.refl _) (.eq rfl (by rw[show w9 u l=u1 from hu]) (gN _ _) .nil)
  ·have Hw:l.headD []=x\/l.headD []∈aE u1:=by
     rcases hh with e|e
     ·left;rw[hx,e];rfl
     ·exact .inr e
   have hA:=FU nM x;have MU:=Hw;exact go []<|aM zQ<|ix zO (aK (fun s=>[D.str s]) hx rfl)<|oW (gv call90 rfl (QW _ _) (.cons rfl (gN _ _) .nil) rfl rfl)<|oW (gv call129 rfl (PN _ hA.1 _ ((hA.2.1 _).2 (.inl rfl))) (.cons rfl (gN _ _) .nil) rfl rfl)<|ix zD (ai' (l:=l) (by rw[hx];simp))<|oW (gv call129 rfl (PN _ hA.1 _ ((hA.2.1 _).2 MU)) (.cons rfl (gN _ _) .nil) rfl rfl)<|oW (eV km (vD:=D.str) (k:=(aI (dU u1 x) x)) (v:=(aI (dU u1 x) (l.headD []))) underlying128 rfl rfl rfl rfl rfl rfl)<|ord<|sd (ao zO)<|nx ⟨pre++[x],rest,tz (l.headD []) u1 x,by simp[hx],hu,(Wi nM Hw).1,.inr (((Wi nM Hw).2 _).2 Hw)⟩ zS (Le.mk rfl (.n 4 rfl rfl (.cons rfl (Sub.int zS) rfl .nil)) (.eq rfl (by rfl) (gN _ _) .nil))
end Go.T
namespace Go.Proofs
open Go.Shelf Go.RowKit Go.Lib Go.Sort
def Tryz.KT:Go.Shelf.Ren:=⟨fun|6=>46|10=>61|n=>n,fun|0=>0|3=>3|4=>4|22=>48|23=>9|25=>51|n=>n,fun|n=>n⟩
def Tryz.Sc:SlLaysH.n10 Tryz.prog Tryz.KT:={
 mixed:=by kernel_rfl
 f6:=⟨Tryz.f46.name,by decide,Tryz.func46.trans (aT some LW)⟩
 f10:=⟨Tryz.f61.name,by decide,Tryz.func61.trans (aT some LW)⟩
 t0:=Tryz.underlying0
 a0:=Tryz.isAgg0
 z0:=Tryz.sizeOf0
 v0:=Tryz.zeroValue0
 t3:=Tryz.underlying3
 a3:=Tryz.isAgg3
 z3:=Tryz.sizeOf3
 v3:=Tryz.zeroValue3
 t4:=Tryz.underlying4
 a4:=Tryz.isAgg4
 z4:=Tryz.sizeOf4
 v4:=Tryz.zeroValue4
 t22:=Tryz.underlying48
 a22:=Tryz.isAgg48
 z22:=Tryz.sizeOf48
 v22:=Tryz.zeroValue48
 a23:=Tryz.isAgg9
 z23:=Tryz.sizeOf9
 t25:=Tryz.underlying51
 a25:=Tryz.isAgg51
 z25:=Tryz.sizeOf51
 v25:=Tryz.zeroValue51
}
end Go.Proofs
namespace Go.T
open Go Go.Proofs Go.Shelf Go.RowKit Go.Lib Go.Sort
variable[bX]
def Zy(W:World)(cp off:Nat)(d:Array (List UInt8)):putRow encStr W cp off d=putRowK (fun s:List UInt8=>[encStr s]) 1 W cp off d:=by
 unfold putRowK putRow
 congr 1
 funext c
 unfold putCells
 congr 1
 funext k x
 simp only[size_flatK,v8];by_cases h:off<=k/\k<off+d.size
 ·rw[aV h,aV h,get_flatK _ _ _ _ zO];simp[Ie]
 ·rw[aF h,aF h]
def holds_one{w:World}{cp off:Nat}{d:Array (List UInt8)}(h:HoldsK (fun s:List UInt8=>[encStr s]) 1 w cp off d):Holds encStr w cp off d:=by
 intro j hj;have:=h j (by simpa using hj);rw[get_flatK _ _ _ _ zO]at this;simpa[Ie]using this
abbrev ga:={s:aa//s.length<=aD}
instance:Inhabited ga:=⟨⟨[],by simp[aD]⟩⟩
def C0:JP 1 (fun x:ga=>[D.str x.1]) (fun x=>[encStr x.1]):=by
 refine⟨fun _=>rfl,fun _=>rfl,fun x v hv=>?_,fun x w O ρ vs h=>?_,fun x w O ρ=>?_⟩
 ·simp only[cr,tu,GD]at hv;subst hv;rfl
 ·simp only[Vs,V]at h;obtain⟨_,_,rfl,h1,rfl⟩:=h;rw[h1.1]
 ·simp only[Vs,V];exact⟨_,_,rfl,⟨rfl,x.2⟩,rfl⟩
def GO(d:List ga):flatK (fun x:ga=>[encStr x.1]) 1 d.toArray=flatK (fun s:List UInt8=>[encStr s]) 1 (d.map Subtype.val).toArray:=by
 apply Iq
 ·simp
 ·intro i h1 h2;simp only[size_flatK,Bz]at h1;have hi:i<d.length:=by omega
  have e1:=get_flatK (fun x:ga=>[encStr x.1]) 1 d.toArray i (by simpa using h1);have e2:=get_flatK (fun s:List UInt8=>[encStr s]) 1 (d.map Subtype.val).toArray i (by simpa using h1);rw[ya _ i (by simpa using h1)]at e1;rw[ya _ i (by simpa using h1)]at e2;rw[e1,e2];simp[Ie,hi]
def aq5{P:Program}{r:Ren}(L:SlLaysM.n6 P r)(id:Nat)(l:List ga)(hl:l.length<4611686018427387904)(l2:List ga)(bM:l2.map Subtype.val=(l.map Subtype.val).mergeSort fun x y=>decide (x<=y)):
  dB P (r.f 6) [.gs id l.length] [(id,.arr 1 (l.map fun x=>[D.str x.1]))] (.a_ []) [(id,.arr 1 (l2.map fun x=>[D.str x.1]))]:=⟨fun w O ρ vals ai bY hv=>by
 have hlen:l2.length=l.length:=by have:=aT List.length bM;simpa using this
 simp only[Vs,V]at hv;obtain⟨v1,us,rfl,h1,rfl⟩:=hv;rcases h1 with⟨hn,a,rfl⟩|⟨hn,aR,je,rfl⟩
 ·obtain rfl:l=[]:=cc.1 hn;obtain rfl:l2=[]:=cc.1 hlen;refine Calls.mono (AnyM.slices_Sort_string_none L a 0 w) ?_;rintro e w' ⟨rfl,rfl⟩;exact⟨_,ρ,rfl,Tr.refl ai,by simp[V,Vs]⟩
 ·have fC:ae.get [(id,Ob.arr 1 (l.map fun x=>[D.str x.1]))] id=some (.arr 1 (l.map fun x=>[D.str x.1])):=by simp[ae.get]
  have eS:(Ob.arr 1 (l.map fun x:ga=>[D.str x.1])).live=true:=by
   cases l with
   |nil=>simp at hn
   |cons x l=>rfl
  obtain⟨l',h3,A4,c,T,hb,bb,ta,tn⟩:=ai.own id _ fC eS;rw[je]at h3;cases h3;have s6:=M' C0 hb tn;have hH:HoldsK (fun s:List UInt8=>[encStr s]) 1 w aR.b aR.off (l.map Subtype.val).toArray:=by
   unfold HoldsK at*;rw[<-GO];exact s6
  have mN:aR.b<w.heap.size:=(bH.1 hb).1;have key:=AnyM.slices_Sort_string L aR.b aR.off aR.cap (l.map Subtype.val) w (holds_one hH) mN (by simpa using hl);rw[bB]at key;refine Calls.mono key ?_;rintro e w' ⟨rfl,n,os,rfl⟩;have Nt:grow (putRow encStr (Sort.ahead w n) aR.b aR.off ((l.map Subtype.val).mergeSort fun x y=>decide (x<=y)).toArray) os=sortWorldK (fun x:ga=>[encStr x.1]) 1 w aR.b aR.off n l2.toArray os:=by
   rw[Zy,<-bM];unfold sortWorldK putRowK;rw[GO]
  rw[Nt];have AY:(sortWorldK (fun x:ga=>[encStr x.1]) 1 w aR.b aR.off n l2.toArray os).heap[aR.b]?=some (.cells (putCells _root_.id aR.off (flatK (fun x:ga=>[encStr x.1]) 1 l2.toArray) c) T (0,0)):=by
   unfold sortWorldK putRowK putRow mapBlock Sort.grow Sort.ahead;simp only;rw[oY (by simpa using mN),sD,aV rfl,hb];rfl
  have uV:w.heap.size<=(sortWorldK (fun x:ga=>[encStr x.1]) 1 w aR.b aR.off n l2.toArray os).heap.size:=size_sortWorldK_c _ 1 w aR.b aR.off n l2.toArray os;have Mt:HoldsK (fun x:ga=>[encStr x.1]) 1 (sortWorldK (fun x:ga=>[encStr x.1]) 1 w aR.b aR.off n l2.toArray os) aR.b aR.off l2.toArray:=holdsK_sortWorldK_c _ 1 w aR.b aR.off l.toArray l2.toArray n os s6 mN (by simpa using hlen);have A7:∀b,cj ρ [(id,Ob.arr 1 (l2.map fun x=>[D.str x.1]))] b->cj ρ [(id,Ob.arr 1 (l.map fun x=>[D.str x.1]))] b:=by
   rintro b ⟨i,o,q,g1,g2,g3,g4⟩;obtain⟨rfl,_⟩:=qE g1;exact⟨_,_,q,fC,eS,g3,g4⟩
  refine⟨_,ρ,rfl,⟨bN.refl _,uV,fun b lO fH=>?_,fun b lO=>.inl (A7 b lO),⟨fun b lO=>lF (ai.lt b lO) uV,fun i hi=>?_,fun i o g1 g2=>?_,fun i j o o' q q' g1 g2 _ _ _ _ _=>?_⟩,rfl,rfl,.inl ⟨rfl,Gy _ _⟩⟩,by simp[V,Vs]⟩
  ·refine U0 lO fun e=>fH ?_;exact⟨id,_,aR,fC,eS,je,e.symm⟩
  ·exact ai.fresh i (L8 hi)
  ·obtain⟨rfl,rfl⟩:=qE g1;exact⟨aR,je,A4,_,T,AY,by simpa[putCells]using bb,by simpa[hlen]using ta,QM C0 Mt⟩
  ·exact(qE g1).1.trans (qE g2).1.symm⟩
end Go.T
namespace Go.T
open Go Go.Proofs Go.Shelf Go.RowKit Go.Lib Go.Sort
variable[bX]
def Z_{w:World}{O:Nat->Prop}{ρ:aA}{id:Nat}{l l3:List ga}{aR:Loc}(ai:cX w O ρ [(id,Ob.arr 1 (l.map fun x=>[D.str x.1]))])(hl:l≠[])(je:ρ id=some aR)(hlen:l3.length=l.length)(n:Nat)(os:Array Obj)(h:Nat):
  Tr O w ρ [(id,Ob.arr 1 (l.map fun x=>[D.str x.1]))] (grow (putRow encStr (Sort.ahead w n) aR.b aR.off (l3.map Subtype.val).toArray) os) ρ [(id,Ob.arr 1 ((l3.map fun x=>[D.str x.1]).take h))]:=by
 have fC:ae.get [(id,Ob.arr 1 (l.map fun x=>[D.str x.1]))] id=some (.arr 1 (l.map fun x=>[D.str x.1])):=by simp[ae.get]
 have eS:(Ob.arr 1 (l.map fun x:ga=>[D.str x.1])).live=true:=by
  cases l with
  |nil=>exact absurd rfl hl
  |cons x l=>rfl
 obtain⟨l',h3,A4,c,T,hb,bb,ta,tn⟩:=ai.own id _ fC eS;rw[je]at h3;cases h3;have s6:=M' C0 hb tn;have mN:aR.b<w.heap.size:=(bH.1 hb).1;have Nt:grow (putRow encStr (Sort.ahead w n) aR.b aR.off (l3.map Subtype.val).toArray) os=sortWorldK (fun x:ga=>[encStr x.1]) 1 w aR.b aR.off n l3.toArray os:=by
  rw[Zy];unfold sortWorldK putRowK;rw[GO]
 rw[Nt];have AY:(sortWorldK (fun x:ga=>[encStr x.1]) 1 w aR.b aR.off n l3.toArray os).heap[aR.b]?=some (.cells (putCells _root_.id aR.off (flatK (fun x:ga=>[encStr x.1]) 1 l3.toArray) c) T (0,0)):=by
  unfold sortWorldK putRowK putRow mapBlock Sort.grow Sort.ahead;simp only;rw[oY (by simpa using mN),sD,aV rfl,hb];rfl
 have uV:w.heap.size<=(sortWorldK (fun x:ga=>[encStr x.1]) 1 w aR.b aR.off n l3.toArray os).heap.size:=size_sortWorldK_c _ 1 w aR.b aR.off n l3.toArray os;have Mt:HoldsK (fun x:ga=>[encStr x.1]) 1 (sortWorldK (fun x:ga=>[encStr x.1]) 1 w aR.b aR.off n l3.toArray os) aR.b aR.off l3.toArray:=holdsK_sortWorldK_c _ 1 w aR.b aR.off l.toArray l3.toArray n os s6 mN (by simpa using hlen);have A7:∀b,cj ρ [(id,Ob.arr 1 ((l3.map fun x=>[D.str x.1]).take h))] b->cj ρ [(id,Ob.arr 1 (l.map fun x=>[D.str x.1]))] b:=by
  rintro b ⟨i,o,q,g1,g2,g3,g4⟩;obtain⟨rfl,_⟩:=qE g1;exact⟨_,_,q,fC,eS,g3,g4⟩
 refine⟨bN.refl _,uV,fun b lO fH=>?_,fun b lO=>.inl (A7 b lO),⟨fun b lO=>lF (ai.lt b lO) uV,fun i hi=>?_,fun i o g1 g2=>?_,fun i j o o' q q' g1 g2 _ _ _ _ _=>?_⟩,rfl,rfl,.inl ⟨rfl,Gy _ _⟩⟩
 ·refine U0 lO fun e=>fH ?_;exact⟨id,_,aR,fC,eS,je,e.symm⟩
 ·exact ai.fresh i (L8 hi)
 ·obtain⟨rfl,rfl⟩:=qE g1;refine⟨aR,je,A4,_,T,AY,by simpa[putCells]using bb,?_,J7 _ _ _ (QM C0 Mt)⟩;have:l3.length<=aR.cap/\l3.length<=aD:=by simpa[hlen]using ta
  simp only[uB,bB];omega
 ·exact(qE g1).1.trans (qE g2).1.symm
def BK:ga:=⟨[],by simp[aD]⟩
def XN(l2:List ga)(k:Nat):(l2++List.replicate k BK).map Subtype.val=l2.map Subtype.val++List.replicate k []:=by simp[BK]
def YZ{O:Nat->Prop}{w:World}{ρ:aA}{id:Nat}{l:List ga}{aR:Loc}(ai:cX w O ρ [(id,Ob.arr 1 (l.map fun x=>[D.str x.1]))])(hl:l≠[])(je:ρ id=some aR):l.length<=aR.cap/\Holds encStr w aR.b aR.off (l.map Subtype.val).toArray:=by
 have fC:ae.get [(id,Ob.arr 1 (l.map fun x=>[D.str x.1]))] id=some (.arr 1 (l.map fun x=>[D.str x.1])):=by simp[ae.get]
 have eS:(Ob.arr 1 (l.map fun x:ga=>[D.str x.1])).live=true:=by
  cases l with
  |nil=>exact absurd rfl hl
  |cons x l=>rfl
 obtain⟨l',h3,A4,c,T,hb,bb,ta,tn⟩:=ai.own id _ fC eS;rw[je]at h3;cases h3;have s6:=M' C0 hb tn;have hH:HoldsK (fun s:List UInt8=>[encStr s]) 1 w aR.b aR.off (l.map Subtype.val).toArray:=by
  unfold HoldsK at*;rw[<-GO];exact s6
 exact⟨by simpa using ta.1,holds_one hH⟩
def Se{P:Program}{r:Ren}(L:SlLaysH.n10 P r)(hz:∀w,(zeroValue (r.t 23)).run P w=.ok (encStr []) w){g:Nat}(eg:∀args w,(callFunc g args).run P w=.ok (.enter g args) w){p:aa->Bool}
  (hp:∀(x:aa) W,FnGives P g #[] #[encStr x] (.bool (p x)) W)(id:Nat)(l:List ga)(aC:l≠[])(hl:l.length<4611686018427387904)(l2:List ga)(bM:l2.map Subtype.val=(l.map Subtype.val).filter fun x=>!p x)
  {O:Nat->Prop}{w:World}{ρ:aA}{aR:Loc}(ai:cX w O ρ [(id,Ob.arr 1 (l.map fun x=>[D.str x.1]))])(je:ρ id=some aR):
  Calls P (r.f 10) #[.slice (some ⟨aR.b,aR.off,none⟩) l.length aR.cap,.func (.func g) #[] #[]] w fun e w'=>e=.returned (.slice (some ⟨aR.b,aR.off,none⟩) l2.length aR.cap)/\Tr O w ρ [(id,Ob.arr 1 (l.map fun x=>[D.str x.1]))] w' ρ [(id,Ob.arr 1 (l2.map fun x=>[D.str x.1]))]:=by
 obtain⟨cR,hH⟩:=YZ ai aC je;have key:=AnyE.slices_DeleteFunc L encStr (fun _=>rfl) p g #[] eg [] hz aR.b aR.off aR.cap (l.map Subtype.val).toArray w (fun W x _=>hp x W) (fun n os dk x _=>hp x _) hH zQ (by simpa using cR);simp only[<-bM,Bz,bB]at key;refine Calls.mono key ?_;rintro e w' ⟨rfl,q,rfl⟩;have fh:l2.length<=l.length:=by
  have:=aT List.length bM;have:=nw (fun x=>!p x) (l.map Subtype.val);simp only[bB]at*;omega
 refine⟨rfl,?_⟩;have h1:=Z_ ai aC je (l3:=l2++List.replicate (l.length-l2.length) BK) zQ q #[] l2.length;rw[grow_empty,XN]at h1;have e2:((l2++List.replicate (l.length-l2.length) BK).map fun x:ga=>[D.str x.1]).take l2.length=l2.map fun x=>[D.str x.1]:=by
  rw[Bh];exact List.take_left' (bB ..)
 rw[e2]at h1;exact h1
def aff{P:Program}{r:Ren}(L:SlLaysH.n10 P r)(hz:∀w,(zeroValue (r.t 23)).run P w=.ok (encStr []) w){g:Nat}(eg:∀args w,(callFunc g args).run P w=.ok (.enter g args) w){p:aa->Bool}
  (hp:∀(x:aa) W,FnGives P g #[] #[encStr x] (.bool (p x)) W)(id:Nat)(l:List ga)(hl:l.length<4611686018427387904)(l2:List ga)(bM:l2.map Subtype.val=(l.map Subtype.val).filter fun x=>!p x)(h2:l2≠[]):
  dB P (r.f 10) [.gs id l.length,.fn (.func g) [] []] [(id,.arr 1 (l.map fun x=>[D.str x.1]))] (.gs id l2.length) [(id,.arr 1 (l2.map fun x=>[D.str x.1]))]:=⟨fun w O ρ vals ai bY hv=>by
 have aC:l≠[]:=by
  rintro rfl;exact h2 (List.map_eq_nil_iff.1 bM)
 simp only[Vs,V]at hv;obtain⟨v1,us,rfl,h1,v2,us2,rfl,⟨a1,a2,rfl,e1,e2⟩,rfl⟩:=hv;obtain rfl:a1=#[]:=by simpa using e1
 obtain rfl:a2=#[]:=by simpa using e2
 rcases h1 with⟨hn,a,rfl⟩|⟨hn,aR,je,rfl⟩
 ·exact absurd (cc.1 hn) aC
 ·refine Calls.mono (Se L hz eg hp id l aC hl l2 bM ai je) ?_;rintro e w' ⟨rfl,ht⟩;exact⟨_,ρ,rfl,ht,by simp only[V];exact .inr ⟨by simpa using h2,aR,je,rfl⟩⟩⟩
def afe{P:Program}{r:Ren}(L:SlLaysH.n10 P r)(hz:∀w,(zeroValue (r.t 23)).run P w=.ok (encStr []) w){g:Nat}(eg:∀args w,(callFunc g args).run P w=.ok (.enter g args) w){p:aa->Bool}
  (hp:∀(x:aa) W,FnGives P g #[] #[encStr x] (.bool (p x)) W)(id:Nat)(l:List ga)(aC:l≠[])(hl:l.length<4611686018427387904)(bM:((l.map Subtype.val).filter fun x=>!p x)=[]):
  dB P (r.f 10) [.gs id l.length,.fn (.func g) [] []] [(id,.arr 1 (l.map fun x=>[D.str x.1]))] (.snap 1 false []) [(id,.arr 1 [])]:=⟨fun w O ρ vals ai bY hv=>by
 simp only[Vs,V]at hv;obtain⟨v1,us,rfl,h1,v2,us2,rfl,⟨a1,a2,rfl,e1,e2⟩,rfl⟩:=hv;obtain rfl:a1=#[]:=by simpa using e1
 obtain rfl:a2=#[]:=by simpa using e2
 rcases h1 with⟨hn,a,rfl⟩|⟨hn,aR,je,rfl⟩
 ·exact absurd (cc.1 hn) aC
 ·refine Calls.mono (Se L hz eg hp id l aC hl [] (by simpa using bM.symm) ai je) ?_;rintro e w' ⟨rfl,ht⟩;exact⟨_,ρ,rfl,ht,by simp only[V];exact⟨_,_,rfl,⟨by simp,by simp⟩,by simp,by simp⟩⟩⟩
def ad'{P:Program}{f:Nat}
  (hk:∀(cp off cap:Nat)(zs:List (List UInt8))(w:World),Holds encStr w cp off zs.toArray->zs.length<=9223372036854775807->zs.length<=cap->Calls P f #[.slice (some ⟨cp,off,none⟩) zs.length cap] w fun e w'=>e=.returned (.slice (some ⟨cp,off,none⟩) (Lib.compact zs).length cap)/\∃q,w'=putRow encStr (Sort.ahead w q) cp off (Lib.compact zs++List.replicate (zs.length-(Lib.compact zs).length) []).toArray)
  (id:Nat)(l:List ga)(aC:l≠[])(hl:l.length<4611686018427387904)(l2:List ga)(bM:l2.map Subtype.val=Lib.compact (l.map Subtype.val))(h2:l2≠[])(fh:l2.length<=l.length):
  dB P f [.gs id l.length] [(id,.arr 1 (l.map fun x=>[D.str x.1]))] (.gs id l2.length) [(id,.arr 1 (l2.map fun x=>[D.str x.1]))]:=⟨fun w O ρ vals ai bY hv=>by
 simp only[Vs,V]at hv;obtain⟨v1,us,rfl,h1,rfl⟩:=hv;rcases h1 with⟨hn,a,rfl⟩|⟨hn,aR,je,rfl⟩
 ·exact absurd (cc.1 hn) aC
 ·obtain⟨cR,hH⟩:=YZ ai aC je;have key:=hk aR.b aR.off aR.cap (l.map Subtype.val) w hH zQ (by simpa using cR);simp only[<-bM,bB]at key;refine Calls.mono key ?_;rintro e w' ⟨rfl,q,rfl⟩;have h1:=Z_ ai aC je (l3:=l2++List.replicate (l.length-l2.length) BK) zQ q #[] l2.length;rw[grow_empty,XN]at h1;have e2:((l2++List.replicate (l.length-l2.length) BK).map fun x:ga=>[D.str x.1]).take l2.length=l2.map fun x=>[D.str x.1]:=by
   rw[Bh];exact List.take_left' (bB ..)
  rw[e2]at h1;exact⟨_,ρ,rfl,h1,by simp only[V];exact .inr ⟨by simpa using h2,aR,je,rfl⟩⟩⟩
end Go.T
namespace Go.T
open Go
variable[bX]
variable{P:Program} {env:Env} {dst:Option Tmp} {ty:TypeId} {pos:String} {ar:Array Edge} {g:Option (Nat×Bool)}
def I9{t e:TypeId}{n sz:Nat}{z:Value}{xs:List (Nat×Operand)}{dH:List (Nat×D)}{cs:List D}{rows:List (List D)}{Z:ae}(id:Nat)(hu:P.underlying t=some (.slice e))(hs:∀w,(sizeOf e).run P w=.ok sz w)(hn:Nat.ble (n*sz) 16777216=true)(cF:Nat.ble n 16777216=true)
  (dQ:Nat.beq (n*sz) 0=false)(hz:∀w,(zeroValue e).run P w=.ok z w)(hx:env.oO xs=some dH)
  (hf:nH (fun i=>some (i*sz,sz)) (((List.range (n*sz)).map fun x=>(z.cells.toList[x%z.cells.toList.length]?).getD default).map lY) dH=some cs)(hr:rows.flatten=cs)(hlen:rows.length=n)(fQ:rows.all (fun r=>Nat.beq r.length sz)=true)(h1:m_ cs=true)(hp:D.bw.dT cs=true)(hid:Z.get id=none):
  aq P ⟨dst,.buildSlice t n xs.toArray,ty,pos,ar,g⟩ env Z (.gs id n) ((id,.arr sz rows)::Z):=
 .step fun O ρ a w ai hv=>by
  have hn:=nA hn;have cF:=nA cF;have dQ:n*sz≠0:=by intro h;rw[h]at dQ;simp at dQ
  rw[<-abA]at hf;obtain⟨h2,h3⟩:=EK (a:=a) xs dH hx (fun x hx d' h=>hv x (by simpa[Op.operands]using hx) d' h);obtain⟨c',h4,h5⟩:=C6 (fun i=>some (i*sz,sz)) dH _ _ ((Array.range (n*sz)).map (z.cells[· %z.cells.size]!)) cs h2 h3 (Vs.Cc _) hf;have h8:Vs w (Ot O ρ Z) dZ cs c'.toList:=Vs.pure cs _ hp h5;have hl:c'.toList.length=cs.length:=h8.length;have pX:n≠0:=by rintro rfl;simp at dQ
  refine⟨.slice (some ⟨w.heap.size,0,none⟩) n n,_,T.cn ρ id ⟨w.heap.size,0,n⟩,.inl ?_,Tr.born ai hid (.cells c' e) rfl (fun i x h _=>h) (fun i h=>h) ?_,?_⟩
  ·have h6:¬n*sz>2^24:=by omega
   have h9:Instr.fill (fun i=>some (i*sz,sz)) ((Array.range (n*sz)).map fun x=>z.cells[x%z.cells.size]!) ((Array.map (fun x=>(x.1,a.eval x.2)) xs.toArray).toList)=some c':=by
    simpa using h4
   simp only[execOp,Instr.buildSlice,Sem.run_bind,bW hu,Result.andThen_ok,hs,aF h6,aF dQ,Sem.run_pure,hz,h9];simp[newRow];try rfl
  ·intro hk;have HJ:∀r∈rows,r.length=sz:=fun r mP=>by
    have:=de.1 fQ r mP;simpa using this
   have jd:∀(l:List (List D)),(∀r∈l,r.length=sz)->l.flatten.length=l.length*sz:=by
    intro l hl;induction l with
    |nil=>simp
    |cons a l ih=>rw[fW,bl,hl a c7,ih fun r hr=>hl r (cC _ hr),bD,dO,qA,BI]
   refine ig.grown (w:=w) (T:=e) (vs:=c'.toList) (zs:=#[]) zS ?_ (by simp[hlen]) zO (by unfold aD;omega) HJ ?_ (fun v js=>h8.one h1 v js) hk
   ·rw[hl,<-hr,jd rows HJ]
   ·rw[hr];exact h8
  ·simp only[V];exact .inr ⟨pX,_,kn ..,rfl⟩
end Go.T
namespace Go.T
open Go
inductive gk(Ls:List (List aa)):aa->aa->Prop
  |refl (x:aa):gk Ls x x
  |one {l:List aa} {x y:aa} (h:l∈Ls) (hx:x∈l) (hy:y∈l):gk Ls x y
  |symm {x y:aa} (h:gk Ls x y):gk Ls y x
  |trans {x y z:aa} (h:gk Ls x y) (h':gk Ls y z):gk Ls x z
def named(Ls:List (List aa))(x:aa):Prop:=∃l∈Ls,x∈l
theorem gk.named{Ls:List (List aa)}{x y:aa}(h:gk Ls x y):x=y\/(Go.T.named Ls x/\Go.T.named Ls y):=by
  induction h with
  |refl x=>exact .inl rfl
  |one h hx hy=>exact .inr ⟨⟨_,h,hx⟩,⟨_,h,hy⟩⟩
  |symm _ ih=>exact ih.imp Eq.symm fun h=>⟨h.2,h.1⟩
  |trans _ _ ih po=>
    rcases ih with rfl|h
    · exact po
    · rcases po with rfl|h'
      · exact .inr h
      · exact .inr ⟨h.1,h'.2⟩
def gk.mono{Ls jD:List (List aa)}(hs:∀l∈Ls,∃l'∈jD,∀x∈l,x∈l'){x y:aa}(h:gk Ls x y):gk jD x y:=by
  induction h with
  |refl x=>exact .refl x
  |one h hx hy=>obtain⟨l',h1,h2⟩:=hs _ h;exact .one h1 (h2 _ hx) (h2 _ hy)
  |symm _ ih=>exact .symm ih
  |trans _ _ ih po=>exact .trans ih po
structure f_(u:UM)(Ls:List (List aa)):Prop where
  rJ:my u
  keys:∀x,x∈aE u↔named Ls x
  conn:∀x y,x∈aE u->y∈aE u->(aI u x=aI u y↔gk Ls x y)
  nd:(aE u).Nodup
theorem PV{x v:aa}:∀{u:UM},(aE u).Nodup->(aE (eD u x v)).Nodup
  |[],_=>by simp[eD,aE]
  |(a,b)::r,h=>by
    have h':a∉aE r/\(aE r).Nodup:=by unfold aE at h;rwa[cP,kr]at h
    simp only[eD];split
    · rename_i c;subst c;unfold aE;rw[cP,kr];exact h'
    · rename_i c
      show((a::aE (eD r x v))).Nodup;rw[kr];refine⟨fun h2=>?_,PV h'.2⟩;rcases tA.1 h2 with h3|h3
      · exact c h3.symm
      · exact h'.1 h3
def QV{u:UM}(x:aa)(h:(aE u).Nodup):(aE (dU u x)).Nodup:=by
  unfold dU;split
  · exact h
  · exact PV h
def aaf:f_ [] []:=⟨ah4,fun x=>by simp[aE,named],fun x y hx=>by simp[aE]at hx,by simp[aE]⟩
theorem f_.mono{u:UM}{Ls jD:List (List aa)}(h:f_ u Ls)(h1:∀l∈Ls,∃l'∈jD,∀x∈l,x∈l')(h2:∀l∈jD,∃l'∈Ls,∀x∈l,x∈l'):f_ u jD:=
  ⟨h.rJ,fun x=>(h.keys x).trans ⟨fun⟨l,hl,hx⟩=>by obtain⟨l',g1,g2⟩:=h1 l hl;exact⟨l',g1,g2 x hx⟩,fun⟨l,hl,hx⟩=>by obtain⟨l',g1,g2⟩:=h2 l hl;exact⟨l',g1,g2 x hx⟩⟩,
   fun x y hx hy=>(h.conn x y hx hy).trans ⟨gk.mono h1,gk.mono h2⟩,h.nd⟩
def aqA{u:UM}{pre:List aa}{Ls:List (List aa)}{a x:aa}(h:f_ u (pre::Ls))(ha:a=x\/a∈pre)(pZ:pre=[]\/a∈pre):f_ (tz a u x) ((pre++[x])::Ls):=by
  obtain⟨a1,a2,a3,a4⟩:=FU h.rJ x;have hax:a=x\/a∈aE u:=ha.imp id fun e=>(h.keys a).2 ⟨pre,c7,e⟩;have kx:x∈aE (dU u x):=(a2 x).2 (.inl rfl);have ka:a∈aE (dU u x):=(a2 a).2 hax;obtain⟨g1,g2,g3⟩:=Xa a1 kx ka;have qN:a∈pre++[x]:=by
    rcases ha with rfl|e
    · simp
    · exact ln _ e
  have yD:∀y,y∈aE (tz a u x)↔named ((pre++[x])::Ls) y:=fun y=>by
    have:=(g2 y).trans (a2 y);refine this.trans ?_;rw[h.keys y];constructor
    · rintro(rfl|⟨l,hl,hy⟩)
      · exact⟨_,c7,by simp⟩
      · rcases cr.1 hl with rfl|hl
        · exact⟨_,c7,ln _ hy⟩
        · exact⟨l,cC _ hl,hy⟩
    · rintro⟨l,hl,hy⟩
      rcases cr.1 hl with rfl|hl
      · rcases cM.1 hy with hy|hy
        · exact .inr ⟨pre,c7,hy⟩
        · exact .inl (by simpa using hy)
      · exact .inr ⟨l,cC _ hl,hy⟩
  have up:∀{y z:aa},gk (pre::Ls) y z->gk ((pre++[x])::Ls) y z:=fun hc=>hc.mono fun l hl=>by
    rcases cr.1 hl with rfl|hl
    · exact⟨_,c7,fun y hy=>ln _ hy⟩
    · exact⟨l,cC _ hl,fun _=>id⟩
  -- the names that belong together ahead of the link
  have E1:∀y z,y∈aE (dU u x)->z∈aE (dU u x)->aI (dU u x) y=aI (dU u x) z->gk ((pre++[x])::Ls) y z:=by
    intro y z hy hz e;by_cases k_:y∈aE u<;>by_cases ld:z∈aE u
    · rw[a3 y k_,a3 z ld]at e
      exact up ((h.conn y z k_ ld).1 e)
    · obtain rfl:z=x:=((a2 z).1 hz).resolve_right ld
      rw[a3 y k_,a4 ld]at e;obtain⟨rk,hf⟩:=h.rJ.yk;have:=(hf.Cg _ y rfl k_).1;rw[e]at this;exact absurd this ld
    · obtain rfl:y=x:=((a2 y).1 hy).resolve_right k_
      rw[a3 z ld,a4 k_]at e;obtain⟨rk,hf⟩:=h.rJ.yk;have:=(hf.Cg _ z rfl ld).1;rw[<-e]at this;exact absurd this k_
    · obtain rfl:y=x:=((a2 y).1 hy).resolve_right k_
      obtain rfl:z=y:=((a2 z).1 hz).resolve_right ld;exact .refl _
  have j8:gk ((pre++[x])::Ls) x a:=.one c7 zS qN;refine⟨g1,yD,fun y z hy hz=>?_,PV (QV x h.nd)⟩;have yR:=(g2 y).1 hy;have rX:=(g2 z).1 hz;rw[show aI (tz a u x) y=_ from g3 y yR,show aI (tz a u x) z=_ from g3 z rX];constructor
  · intro e
    by_cases p:aI (dU u x) y=aI (dU u x) x<;>by_cases q:aI (dU u x) z=aI (dU u x) x
    · exact(E1 y x yR kx p).trans (E1 z x rX kx q).symm
    · rw[aV p,aF q]at e
      exact((E1 y x yR kx p).trans j8).trans (E1 a z ka rX e)
    · rw[aF p,aV q]at e
      exact(E1 y a yR ka e).trans ((E1 z x rX kx q).trans j8).symm
    · rw[aF p,aF q]at e
      exact E1 y z yR rX e
  · intro hc
    -- by the way the names are connected
    have key:∀{y z:aa},gk ((pre++[x])::Ls) y z->y=z\/(y∈aE (dU u x)/\z∈aE (dU u x)/\(if aI (dU u x) y=aI (dU u x) x then aI (dU u x) a else aI (dU u x) y)=(if aI (dU u x) z=aI (dU u x) x then aI (dU u x) a else aI (dU u x) z)):=by
      intro y z hc;induction hc with
      |refl y=>exact .inl rfl
      |symm _ ih=>exact ih.imp Eq.symm fun⟨p,q,r⟩=>⟨q,p,r.symm⟩
      |trans _ _ ih po=>
        rcases ih with rfl|⟨p,q,r⟩
        · exact po
        · rcases po with rfl|⟨p',q',r'⟩
          · exact .inr ⟨p,q,r⟩
          · exact .inr ⟨p,q',r.trans r'⟩
      |@one l y z hl hy hz=>
        right;have val:∀w∈pre++[x],w∈aE (dU u x)/\(if aI (dU u x) w=aI (dU u x) x then aI (dU u x) a else aI (dU u x) w)=aI (dU u x) a:=by
          intro w hw;rcases cM.1 hw with hw|hw
          · have uK:a∈pre:=by
              rcases pZ with e|e
              · rw[e]at hw;cases hw
              · exact e
            have kw:=(h.keys w).2 ⟨pre,c7,hw⟩;have Wl:=(h.keys a).2 ⟨pre,c7,uK⟩;refine⟨(a2 w).2 (.inr kw),?_⟩;have e1:aI (dU u x) w=aI (dU u x) a:=by
              rw[a3 w kw,a3 a Wl];exact(h.conn w a kw Wl).2 (.one c7 hw uK)
            split
            · rfl
            · exact e1
          · obtain rfl:w=x:=by simpa using hw
            exact⟨kx,by rw[aV rfl]⟩
        rcases cr.1 hl with rfl|hl
        · exact⟨(val y hy).1,(val z hz).1,(val y hy).2.trans (val z hz).2.symm⟩
        · have ky:=(h.keys y).2 ⟨l,cC _ hl,hy⟩
          have kz:=(h.keys z).2 ⟨l,cC _ hl,hz⟩;have e1:aI (dU u x) y=aI (dU u x) z:=by
            rw[a3 y ky,a3 z kz];exact(h.conn y z ky kz).2 (.one (cC _ hl) hy hz)
          exact⟨(a2 y).2 (.inr ky),(a2 z).2 (.inr kz),by rw[e1]⟩
    rcases key hc with rfl|⟨_,_,e⟩
    · rfl
    · exact e
def aae{u:UM}{Ls:List (List aa)}(h:f_ u Ls)(l:List aa):f_ (w9 u l) (l::Ls):=by
  have cE:∀{x y:aa},gk ([]::Ls) x y->gk Ls x y:=fun hc=>by
    induction hc with
    |refl x=>exact .refl x
    |symm _ ih=>exact .symm ih
    |trans _ _ ih po=>exact .trans ih po
    |one hl hx hy=>
      rcases cr.1 hl with rfl|hl
      · cases hx
      · exact .one hl hx hy
  have h0:f_ u ([]::Ls):=⟨h.rJ,fun x=>(h.keys x).trans ⟨fun⟨l,hl,hx⟩=>⟨l,cC _ hl,hx⟩,fun⟨l,hl,hx⟩=>by
    rcases cr.1 hl with rfl|hl
    · cases hx
    · exact⟨l,hl,hx⟩⟩,fun x y hx hy=>(h.conn x y hx hy).trans ⟨gk.mono fun l hl=>⟨l,cC _ hl,fun _=>id⟩,cE⟩,h.nd⟩
  have key:∀(rest pre:List aa)(v:UM),l=pre++rest->f_ v (pre::Ls)->f_ (rest.foldl (tz (l.headD [])) v) (l::Ls):=by
    intro rest;induction rest with
    |nil=>intro pre v e hv;rw[iJ]at e;rw[e];exact hv
    |cons x rest ih=>
      intro pre v e hv;refine ih (pre++[x]) _ (by rw[e];simp) (aqA hv ?_ ?_)
      · rw[e];cases pre with
        |nil=>exact .inl rfl
        |cons p q=>exact .inr c7
      · rw[e];cases pre with
        |nil=>exact .inl rfl
        |cons p q=>exact .inr c7
  exact key l [] u rfl h0
open Go.Lib
@[reducible] def xb(f:Fact):Bool:=decide (f.kind=9)||decide (f.kind=12)
def fk(l:List aa):List aa:=l.mergeSort fun x y=>decide (x<=y)
def lz(l:List aa):(fk l).Perm l:=List.mergeSort_perm l _
def wu{α:Type}{P:α->Prop}{l:List α}(h:∀k∈l,P k):(l.attachWith P h).map Subtype.val=l:=by
 induction l with
 |nil=>rfl
 |cons a l ih=>simp
def kB(f:Fact):List aa:=if xb f=true then[f.dV]++[f.other]else[f.dV]
def fJ(f:Fact):List aa:=kB f++f.opts.map (·.other)
def iO(f:Fact):List aa:=(fJ f).filter fun s=>!decide (s=[])
def b_(f:Fact):List aa:=Lib.compact (fk (iO f))
def yx(f:Fact):(kB f).length<=2/\kB f≠[]:=by
 unfold kB;split<;>simp
theorem Oq{d:Array aa}:∀(m:Nat)(x:aa),x∈compactUpTo d m↔∃j,j<m/\keeps d j=true/\d[j]! =x
 |0,x=>by simp[compactUpTo]
 |m+1,x=>by
  rw[compactUpTo_succ,cM,Oq m];constructor
  ·rintro(⟨j,h1,h2,h3⟩|h)
   ·exact⟨j,by omega,h2,h3⟩
   ·split at h
    ·exact⟨m,by omega,by assumption,(kl.1 h).symm⟩
    ·cases h
  ·rintro⟨j,h1,h2,h3⟩;by_cases e:j=m
   ·subst e;right;rw[aV h2];simp[h3]
   ·exact .inl ⟨j,by omega,h2,h3⟩
def Ih{l:List aa}{x:aa}:x∈Lib.compact l↔x∈l:=by
 unfold Lib.compact;rw[Oq];constructor
 ·rintro⟨j,h1,_,rfl⟩;rw[ya l.toArray j (by simpa using h1)];simp
 ·intro h;have wS:∃j,j<l.length/\l.toArray[j]! =x:=by
   obtain⟨j,hj,e⟩:=DX h;exact⟨j,hj,by rw[ya l.toArray j (by simpa using hj)];simpa using e⟩
  have key:∀j,j<l.length->l.toArray[j]! =x->∃i,i<l.length/\keeps l.toArray i=true/\l.toArray[i]! =x:=by
   intro j;induction j with
   |zero=>intro h0 e;exact⟨0,h0,keeps_lt_one _ 0 zO,e⟩
   |succ j ih=>
    intro h0 e;by_cases e2:l.toArray[j]! =x
    ·exact ih zO e2
    ·exact⟨j+1,h0,keeps_pos (by rw[e];exact fun e3=>e2 e3.symm),e⟩
  obtain⟨j,h1,h2⟩:=wS;exact key j h1 h2
def q7{l:List aa}{x:aa}:x∈fk l↔x∈l:=(lz l).mem_iff
def Oo{f:Fact}{x:aa}:x∈b_ f↔x∈fJ f/\x≠[]:=by
 unfold b_ iO;rw[Ih,q7,eX];simp
def yT(f:Fact):(b_ f).length<=2+f.opts.length:=by
 have h1:=compact_length_le (fk (iO f));have h2:=(lz (iO f)).length_eq;have h3:(iO f).length<=(fJ f).length:=nw _ _;have h4:=(yx f).1;unfold fJ at h3;simp only[bl,bB]at h3;unfold b_;omega
def V6{f:Fact}(h:iO f=[]):b_ f=[]:=by
 unfold b_;rw[h];simp[fk,Lib.compact,compactUpTo]
open Go.Proofs Go.Proofs.Tryz Go.Shelf Go.RowKit Go.Sort
def Ui(x:aa)(W:World):FnGives prog 62 #[] #[encStr x] (.bool (decide (x=[]))) W:=by
 show Calls prog 62 #[encStr x] W _
 go_enter func62,ntmps62
 go_wp2
 all_goals(go_ret;exact⟨by cases x<;>simp_all,0,rfl⟩)
def SJ:∀args w,(callFunc 62 args).run prog w=.ok (.enter 62 args) w:=enters_of func62 LW rfl
section
variable{l:List aa} (h:∀s∈l,dX s)
def zG:(l.attachWith dX h).map (fun x=>[D.str x.1])=l.map fun s=>[D.str s]:=by conv=>{rhs;rw[<-wu h,Ha]};rfl
end
def Sb(id:Nat)(l:List aa)(h:∀s∈l,dX s)(hl:l.length<4611686018427387904)(aC:(l.filter fun s=>!decide (s=[]))≠[]):
  dB Tryz.prog 61 [.gs id l.length,.fn (.func 62) [] []] [(id,.arr 1 (l.map fun s=>[D.str s]))] (.gs id (l.filter fun s=>!decide (s=[])).length) [(id,.arr 1 ((l.filter fun s=>!decide (s=[])).map fun s=>[D.str s]))]:=by
 have h2:∀s∈l.filter (fun s=>!decide (s=[])),dX s:=fun s hs=>h s (eX.1 hs).1;have:=aff (r:=Tryz.KT) Tryz.Sc zeroValue9 SJ Ui id (l.attachWith dX h) (by simpa using hl) ((l.filter fun s=>!decide (s=[])).attachWith dX h2) (by rw[wu,wu]) (by intro e;exact aC (by simpa using congrArg (List.map Subtype.val) e));rw[zG h,zG h2,uq,uq]at this;exact this
def Sa(id:Nat)(l:List aa)(h:∀s∈l,dX s)(h0:l≠[])(hl:l.length<4611686018427387904)(he:(l.filter fun s=>!decide (s=[]))=[]):
  dB Tryz.prog 61 [.gs id l.length,.fn (.func 62) [] []] [(id,.arr 1 (l.map fun s=>[D.str s]))] (.snap 1 false []) [(id,.arr 1 [])]:=by
 have:=afe (r:=Tryz.KT) Tryz.Sc zeroValue9 SJ Ui id (l.attachWith dX h) (by intro e;exact h0 (by simpa using congrArg (List.map Subtype.val) e)) (by simpa using hl) (by rw[wu];exact he);rw[zG h,uq]at this;exact this
def Fb(id:Nat)(l:List aa)(h:∀s∈l,dX s)(hl:l.length<4611686018427387904):dB Tryz.prog 63 [.gs id l.length] [(id,.arr 1 (l.map fun s=>[D.str s]))] (.a_ []) [(id,.arr 1 ((fk l).map fun s=>[D.str s]))]:=by
 have h2:∀s∈fk l,dX s:=fun s hs=>h s ((lz l).subset hs);have:=aq5 (r:=Tryz.WN) Tryz.WM id (l.attachWith dX h) (by simpa using hl) ((fk l).attachWith dX h2) (by rw[wu,wu];rfl);rw[zG h,zG h2,uq]at this;exact this
def aau:Fc Tryz.prog 63 [.snap 1 false []] (.a_ []):=.rf fun w O ρ vals hg hv=>by
 simp only[Vs,V]at hv;obtain⟨_,_,rfl,⟨a,cap,rfl,_⟩,rfl⟩:=hv;refine(Tryz.slices_Sort_string_none a cap w).mono ?_;rintro e w' ⟨rfl,rfl⟩;exact⟨_,rfl,by simp[V,Vs],.refl _⟩
def KE(id:Nat)(l:List aa)(h:∀s∈l,dX s)(h0:l≠[])(hl:l.length<4611686018427387904)(n:Nat)(ta:l.length=n):dB Tryz.prog 64 [.gs id n] [(id,.arr 1 (l.map fun s=>[D.str s]))] (.gs id (Lib.compact l).length) [(id,.arr 1 ((Lib.compact l).map fun s=>[D.str s]))]:=by
 subst ta;have h2:∀s∈Lib.compact l,dX s:=fun s hs=>h s (Ih.1 hs);have:=ad' (f:=64) Tryz.slices_Compact_string id (l.attachWith dX h) (by intro e;exact h0 (by simpa using congrArg (List.map Subtype.val) e)) (by simpa using hl) ((Lib.compact l).attachWith dX h2) (by rw[wu,wu])
  (by
   intro e;obtain⟨x,hx⟩:=Em _ h0;have e2:Lib.compact l=[]:=by simpa using congrArg (List.map Subtype.val) e
   have:=(Ih (l:=l) (x:=x)).2 hx;rw[e2]at this;cases this) (by simpa using compact_length_le l)
 rw[zG h,zG h2,uq,uq]at this;exact this
def KD:Fc Tryz.prog 64 [.snap 1 false []] (.snap 1 false []):=.rf fun w O ρ vals hg hv=>by
 simp only[Vs,V]at hv;obtain⟨_,_,rfl,⟨a,cap,rfl,h⟩,rfl⟩:=hv;refine(Tryz.slices_Compact_string_empty a cap w).mono ?_;rintro e w' ⟨rfl,rfl⟩;exact⟨_,rfl,by simp only[V];exact⟨_,_,rfl,h⟩,.refl _⟩
end Go.T
namespace Go.T
open Go Go.Proofs Go.Proofs.Tryz
def Hg{f:Fact}(h:xb f=true):kB f=[f.dV]++[f.other]:=aV h
def Hf{f:Fact}(h:xb f=false):kB f=[f.dV]:=aF (by rw[h];simp)
def V2{f:Fact}(hs:∀s∈fJ f,dX s):(∀s∈iO f,dX s)/\(∀s∈fk (iO f),dX s):=
 ⟨fun s h=>hs s (eX.1 h).1,fun s h=>hs s (eX.1 (q7.1 h)).1⟩
def aaD(f:Fact):(iO f).length<=2+f.opts.length/\(fk (iO f)).length=(iO f).length/\(fJ f).length<=2+f.opts.length:=by
 have h2:=(lz (iO f)).length_eq;have h3:(iO f).length<=(fJ f).length:=nw _ _;have h4:=(yx f).1;have h5:(fJ f).length<=2+f.opts.length:=by
  unfold fJ;simp only[bl,bB];omega
 exact⟨by omega,h2,h5⟩
def aav{f:Fact}(h:iO f≠[]):fk (iO f)≠[]:=by
 intro e;have:=(lz (iO f)).length_eq;rw[e]at this;exact h (cc.1 this.symm)
def V1(f:Fact):fJ f≠[]:=by
 unfold fJ;intro e;exact(yx f).2 (List.append_eq_nil_iff.1 e).1
structure V3(f:Fact)where
 pre:List cY
 rest:List cY
 hx:f.opts=pre++rest
def akm(f:Fact)(hn:f.opts.length<=1000000)(hs:∀s∈fJ f,dX s)(aC:iO f=[]):Fc prog 25 [.agg (aJ f)] (bg (b_ f)):=by
 refine ay func25 ntmps25 results25 ?_;have hS:=V2 hs;have Mw:=aaD f;refine go [1] ?_;refine U.bc (Le.fx 1 0 rfl rfl rfl rfl) ?_;refine go []<|oW (I9 (n:=1) (rows:=[[.str f.dV]]) 1 underlying48 sizeOf9 rfl rfl rfl zeroValue9 rfl rfl rfl rfl rfl rfl rfl rfl)<|br (fun h1=>?_) (fun h1=>?_)
 ·refine oP (bK (n:=1) (rows:=[[.str f.other]]) underlying48 sizeOf9 rfl rfl rfl zeroValue9 rfl rfl rfl rfl rfl rfl rfl)<|oW (ee 2 underlying48 underlying48 sizeOf9 typeInfo9 zeroValue9 rfl (bt:=16) rfl rfl rfl rfl zS rfl rfl zS)<|U.loop (ι:=V3 f) (fun sx=>[(1,.bj (aJ f)),(3,.gs 1 ((kB f++sx.pre.map (·.other))).length),(23,qk f.opts),(24,.i f.opts.length),(25,.i sx.pre.length)]) (fun sx=>[(1,.arr 1 ((kB f++sx.pre.map (·.other)).map (fun s:aa=>[D.str s])))]) (fun sx=>sx.rest.length) ⟨[],_,rfl⟩ ?_ ?_
  ·exact(Le.mk (aj:=[(2,_)]) rfl (show ct _ _ [(1,_),(3,_),(23,_),(24,_),(25,_)]from(.n 5 rfl rfl .nil)) (.cons (i:=2) rfl rfl .nil)).trans<|(Le.iz 3 2 1 rfl rfl zS rfl).trans<|Le.mk rfl (.s rfl rfl (.cons rfl (Sub.gs (by rw[Hg h1];rfl)) rfl (.s rfl rfl (.cons rfl (Sub.int zS) rfl (.s rfl rfl .nil))))) (.arr rfl (by rw[Hg h1];rfl) .nil)
  ·rintro⟨pre,rest,hx⟩;dsimp only;have hl:=aT List.length hx;simp only[bl]at hl;have hH:=yx f;rcases rest with _|⟨x,rest⟩
   ·have pZ:fJ f=(kB f++pre.map (·.other)):=by rw[fJ];simp[hx]
    exact go [1]<|aH (by simp at hl|-;omega)<|go [1]<|oW (gv call61 (by rw[<-pZ];rfl) (Sa 1 (fJ f) hs (V1 f) zO aC) (.cons (by rw[<-pZ];rfl) rfl .nil) rfl rfl)<|oP (ah call63 rfl aau)<|oP (ah call64 rfl KD)<|af rfl (Sub.snap (by exact(V6 aC).symm▸rfl))
   ·simp only[bD]at hl;exact go [1]<|aM zQ<|ix zO (aK mF hx rfl)<|oP (bK (n:=1) (rows:=[[.str x.other]]) underlying48 sizeOf9 rfl rfl rfl zeroValue9 rfl rfl rfl rfl rfl rfl rfl)<|oW (ee 2 underlying48 underlying48 sizeOf9 typeInfo9 zeroValue9 rfl (bt:=16) rfl rfl rfl rfl zS rfl rfl zQ)<|sd (ao zO)<|nx ⟨pre++[x],rest,by simp[hx]⟩ zS ((Le.mk (aj:=[(2,_)]) rfl (show ct _ _ [(1,_),(3,_),(23,_),(24,_),(25,_)]from(.n 5 rfl rfl .nil)) (.cons (i:=2) rfl rfl .nil)).trans<|(Le.iz 3 2 1 rfl rfl zQ rfl).trans<|Le.mk rfl (.s rfl rfl (.cons rfl (Sub.gs zQ) rfl (.n 2 rfl rfl (.cons rfl (Sub.int zS) rfl .nil)))) (.arr rfl zS .nil))
 ·refine U.loop (ι:=V3 f) (fun sx=>[(1,.bj (aJ f)),(3,.gs 1 ((kB f++sx.pre.map (·.other))).length),(23,qk f.opts),(24,.i f.opts.length),(25,.i sx.pre.length)]) (fun sx=>[(1,.arr 1 ((kB f++sx.pre.map (·.other)).map (fun s:aa=>[D.str s])))]) (fun sx=>sx.rest.length) ⟨[],_,rfl⟩ ?_ ?_
  ·exact Le.mk rfl (.s rfl rfl (.cons rfl (Sub.gs (by rw[Hf h1];rfl)) rfl (.s rfl rfl (.cons rfl (Sub.int zS) rfl (.s rfl rfl .nil))))) (.arr rfl (by rw[Hf h1];rfl) .nil)
  ·rintro⟨pre,rest,hx⟩;dsimp only;have hl:=aT List.length hx;simp only[bl]at hl;have hH:=yx f;rcases rest with _|⟨x,rest⟩
   ·have pZ:fJ f=(kB f++pre.map (·.other)):=by rw[fJ];simp[hx]
    exact go [1]<|aH (by simp at hl|-;omega)<|go [1]<|oW (gv call61 (by rw[<-pZ];rfl) (Sa 1 (fJ f) hs (V1 f) zO aC) (.cons (by rw[<-pZ];rfl) rfl .nil) rfl rfl)<|oP (ah call63 rfl aau)<|oP (ah call64 rfl KD)<|af rfl (Sub.snap (by exact(V6 aC).symm▸rfl))
   ·simp only[bD]at hl;exact go [1]<|aM zQ<|ix zO (aK mF hx rfl)<|oP (bK (n:=1) (rows:=[[.str x.other]]) underlying48 sizeOf9 rfl rfl rfl zeroValue9 rfl rfl rfl rfl rfl rfl rfl)<|oW (ee 2 underlying48 underlying48 sizeOf9 typeInfo9 zeroValue9 rfl (bt:=16) rfl rfl rfl rfl zS rfl rfl zQ)<|sd (ao zO)<|nx ⟨pre++[x],rest,by simp[hx]⟩ zS ((Le.mk (aj:=[(2,_)]) rfl (show ct _ _ [(1,_),(3,_),(23,_),(24,_),(25,_)]from(.n 5 rfl rfl .nil)) (.cons (i:=2) rfl rfl .nil)).trans<|(Le.iz 3 2 1 rfl rfl zQ rfl).trans<|Le.mk rfl (.s rfl rfl (.cons rfl (Sub.gs zQ) rfl (.n 2 rfl rfl (.cons rfl (Sub.int zS) rfl .nil)))) (.arr rfl zS .nil))
structure V4(f:Fact)where
 pre:List cY
 rest:List cY
 hx:f.opts=pre++rest
def akn(f:Fact)(hn:f.opts.length<=1000000)(hs:∀s∈fJ f,dX s)(aC:iO f≠[]):Fc prog 25 [.agg (aJ f)] (bg (b_ f)):=by
 refine ay func25 ntmps25 results25 ?_;have hS:=V2 hs;have Mw:=aaD f;refine U.seq<|rg<|.W rfl (I8 0 rfl rfl)<|.ag rfl rfl<|.nil ?_;refine U.bc (Le.fx 1 0 rfl rfl rfl rfl) ?_;refine U.seq<|rg<|.P rfl (lr (n:=0) 9 5 underlying39 sizeOf9 rfl rfl rfl)<|.P rfl (bE isAgg9 rfl)<|.W rfl (I9 (n:=1) (rows:=[[.str f.dV]]) 1 underlying48 sizeOf9 rfl rfl rfl zeroValue9 rfl rfl rfl rfl rfl rfl rfl rfl)<|.ag rfl rfl<|.nil<|U.seq (U.seq (U.e_ [.p,.p,.p,.p,.p,.p,.p,.p] ?_));refine .P rfl (lr (n:=0) 3 4 underlying39 sizeOf3 rfl rfl rfl)<|.P rfl (bE isAgg3 rfl)<|.P rfl (kO rfl rfl)<|.mv rfl rfl<|.gF rfl (.inl rfl) rfl rfl rfl (fun hg=>pk (fun _=>lr (n:=0) 3 4 underlying39 sizeOf3 rfl rfl rfl _))<|.gF rfl (.inl rfl) rfl rfl rfl (fun hg=>pk (fun _=>bE isAgg3 (bn rfl (nt hg)) _))<|.gF rfl (.inl rfl) rfl rfl rfl (fun hg=>pk (fun _=>kO (bn rfl (nt hg)) rfl _))<|.P rfl (oT rfl rfl)<|.nil<|U.cond rfl (fun h1=>?_) (fun h1=>?_)
 ·refine rg<|.mv rfl rfl<|.P rfl (lr (n:=0) 9 6 underlying39 sizeOf9 rfl rfl rfl)<|.P rfl (bE isAgg9 rfl)<|.P rfl (bK (n:=1) (rows:=[[.str f.other]]) underlying48 sizeOf9 rfl rfl rfl zeroValue9 rfl rfl rfl rfl rfl rfl rfl)<|.W rfl (ee 2 underlying48 underlying48 sizeOf9 typeInfo9 zeroValue9 rfl (bt:=16) rfl rfl rfl rfl zS rfl rfl zS)<|.ag rfl rfl<|.nil<|U.seq<|U.seq<|rg<|.P rfl (lr (n:=0) 37 19 underlying39 sizeOf37 rfl rfl rfl)<|.P rfl (bE isAgg37 rfl)<|.P rfl (cv underlying37 rfl)<|.mv rfl rfl<|.nil<|U.block<|U.loop (ι:=V4 f) (fun sx=>[(1,.bj (aJ f)),(3,.gs 1 ((kB f++sx.pre.map (·.other))).length),(23,qk f.opts),(24,.i f.opts.length),(25,.i sx.pre.length)]) (fun sx=>[(1,.arr 1 ((kB f++sx.pre.map (·.other)).map (fun s:aa=>[D.str s])))]) (fun sx=>sx.rest.length) ⟨[],_,rfl⟩ ?_ ?_
  ·exact(Le.mk (aj:=[(2,_)]) rfl (show ct _ _ [(1,_),(3,_),(23,_),(24,_),(25,_)]from(.n 5 rfl rfl .nil)) (.cons (i:=2) rfl rfl .nil)).trans<|(Le.iz 3 2 1 rfl rfl zS rfl).trans<|Le.mk rfl (.s rfl rfl (.cons rfl (Sub.gs (by rw[Hg h1];rfl)) rfl (.s rfl rfl (.cons rfl (Sub.int zS) rfl (.s rfl rfl .nil))))) (.arr rfl (by rw[Hg h1];rfl) .nil)
  ·rintro⟨pre,rest,hx⟩;dsimp only;have hl:=aT List.length hx;simp only[bl]at hl;have hH:=yx f;rcases rest with _|⟨x,rest⟩
   ·have pZ:fJ f=(kB f++pre.map (·.other)):=by rw[fJ];simp[hx]
    refine U.seq<|rg<|.P rfl (bp rfl rfl)<|.nil<|U.seq<|U.c6 rfl (by simp at hl|-;omega)<|U.exit (dz (du ?_));refine U.seq<|rg<|.mv rfl rfl<|.W rfl (gv call61 (by rw[<-pZ];rfl) (Sb 1 (fJ f) hs zO aC) (.cons (by rw[<-pZ];rfl) rfl .nil) rfl rfl)<|.ag rfl rfl<|.nil<|U.seq<|rg<|.mv rfl rfl<|.W rfl (gv call63 rfl (Fb 1 (iO f) hS.1 zO) (.cons rfl rfl .nil) rfl rfl)<|.nil<|U.seq<|rg<|.mv rfl rfl<|.W rfl (gv call64 rfl (KE 1 (fk (iO f)) hS.2 (aav aC) zO (iO f).length Mw.2.1) (.cons rfl rfl .nil) rfl rfl)<|.ag rfl rfl<|.nil ?_;refine U.bc (Le.freeze 2 1 rfl rfl zS) ?_;refine U.ret (?_);exact dt rfl (Sub.refl _)
   ·simp only[bD]at hl;refine U.seq<|rg<|.P rfl (bp rfl rfl)<|.nil<|U.seq<|U.ew rfl zQ<|U.skip<|U.seq<|U.block<|U.seq<|rg<|.P rfl (eC underlying37 sizeOf87 rfl rfl zO (aK mF hx rfl))<|.P rfl (vH isAgg87 sizeOf87 rfl rfl)<|.W rfl (jC 3 zeroValue87 rfl)<|.W rfl (kP sizeOf87 rfl rfl rfl rfl rfl rfl)<|.nil<|rg<|.mv rfl rfl<|.P rfl (iN (n:=0) 9 0 underlying87 sizeOf9 rfl rfl)<|.R rfl (iY isAgg9 rfl rfl rfl)<|.P rfl (bK (n:=1) (rows:=[[.str x.other]]) underlying48 sizeOf9 rfl rfl rfl zeroValue9 rfl rfl rfl rfl rfl rfl rfl)<|.W rfl (ee 4 underlying48 underlying48 sizeOf9 typeInfo9 zeroValue9 rfl (bt:=16) rfl rfl rfl rfl zS rfl rfl zQ)<|.ag rfl rfl<|.nil<|U.nil (bR ?_);refine rg<|.P rfl (bx rfl rfl (ao zO))<|.mv rfl rfl<|.nil<|U.nil (cz ?_);exact⟨⟨pre++[x],rest,by simp[hx]⟩,by simp,(Le.mk (aj:=[(4,_)]) rfl (show ct _ _ [(1,_),(3,_),(23,_),(24,_),(25,_)]from(.n 5 rfl rfl .nil)) (.cons (i:=4) rfl rfl .nil)).trans<|(Le.iz 3 4 1 rfl rfl zQ rfl).trans<|Le.mk rfl (.s rfl rfl (.cons rfl (Sub.gs zQ) rfl (.n 2 rfl rfl (.cons rfl (Sub.int zS) rfl .nil)))) (.arr rfl zS .nil)⟩
 ·refine U.skip<|U.seq<|U.seq<|rg<|.P rfl (lr (n:=0) 37 19 underlying39 sizeOf37 rfl rfl rfl)<|.P rfl (bE isAgg37 rfl)<|.P rfl (cv underlying37 rfl)<|.mv rfl rfl<|.nil<|U.block<|U.loop (ι:=V4 f) (fun sx=>[(1,.bj (aJ f)),(3,.gs 1 ((kB f++sx.pre.map (·.other))).length),(23,qk f.opts),(24,.i f.opts.length),(25,.i sx.pre.length)]) (fun sx=>[(1,.arr 1 ((kB f++sx.pre.map (·.other)).map (fun s:aa=>[D.str s])))]) (fun sx=>sx.rest.length) ⟨[],_,rfl⟩ ?_ ?_
  ·exact Le.mk rfl (.s rfl rfl (.cons rfl (Sub.gs (by rw[Hf h1];rfl)) rfl (.s rfl rfl (.cons rfl (Sub.int zS) rfl (.s rfl rfl .nil))))) (.arr rfl (by rw[Hf h1];rfl) .nil)
  ·rintro⟨pre,rest,hx⟩;dsimp only;have hl:=aT List.length hx;simp only[bl]at hl;have hH:=yx f;rcases rest with _|⟨x,rest⟩
   ·have pZ:fJ f=(kB f++pre.map (·.other)):=by rw[fJ];simp[hx]
    refine U.seq<|rg<|.P rfl (bp rfl rfl)<|.nil<|U.seq<|U.c6 rfl (by simp at hl|-;omega)<|U.exit (dz (du ?_));refine U.seq<|rg<|.mv rfl rfl<|.W rfl (gv call61 (by rw[<-pZ];rfl) (Sb 1 (fJ f) hs zO aC) (.cons (by rw[<-pZ];rfl) rfl .nil) rfl rfl)<|.ag rfl rfl<|.nil<|U.seq<|rg<|.mv rfl rfl<|.W rfl (gv call63 rfl (Fb 1 (iO f) hS.1 zO) (.cons rfl rfl .nil) rfl rfl)<|.nil<|U.seq<|rg<|.mv rfl rfl<|.W rfl (gv call64 rfl (KE 1 (fk (iO f)) hS.2 (aav aC) zO (iO f).length Mw.2.1) (.cons rfl rfl .nil) rfl rfl)<|.ag rfl rfl<|.nil ?_;refine U.bc (Le.freeze 2 1 rfl rfl zS) ?_;refine U.ret (?_);exact dt rfl (Sub.refl _)
   ·simp only[bD]at hl;refine U.seq<|rg<|.P rfl (bp rfl rfl)<|.nil<|U.seq<|U.ew rfl zQ<|U.skip<|U.seq<|U.block<|U.seq<|rg<|.P rfl (eC underlying37 sizeOf87 rfl rfl zO (aK mF hx rfl))<|.P rfl (vH isAgg87 sizeOf87 rfl rfl)<|.W rfl (jC 2 zeroValue87 rfl)<|.W rfl (kP sizeOf87 rfl rfl rfl rfl rfl rfl)<|.nil<|rg<|.mv rfl rfl<|.P rfl (iN (n:=0) 9 0 underlying87 sizeOf9 rfl rfl)<|.R rfl (iY isAgg9 rfl rfl rfl)<|.P rfl (bK (n:=1) (rows:=[[.str x.other]]) underlying48 sizeOf9 rfl rfl rfl zeroValue9 rfl rfl rfl rfl rfl rfl rfl)<|.W rfl (ee 3 underlying48 underlying48 sizeOf9 typeInfo9 zeroValue9 rfl (bt:=16) rfl rfl rfl rfl zS rfl rfl zQ)<|.ag rfl rfl<|.nil<|U.nil (bR ?_);refine rg<|.P rfl (bx rfl rfl (ao zO))<|.mv rfl rfl<|.nil<|U.nil (cz ?_);exact⟨⟨pre++[x],rest,by simp[hx]⟩,by simp,(Le.mk (aj:=[(3,_)]) rfl (show ct _ _ [(1,_),(3,_),(23,_),(24,_),(25,_)]from(.n 5 rfl rfl .nil)) (.cons (i:=3) rfl rfl .nil)).trans<|(Le.iz 3 3 1 rfl rfl zQ rfl).trans<|Le.mk rfl (.s rfl rfl (.cons rfl (Sub.gs zQ) rfl (.n 2 rfl rfl (.cons rfl (Sub.int zS) rfl .nil)))) (.arr rfl zS .nil)⟩
def V7(f:Fact)(hn:f.opts.length<=1000000)(hs:∀s∈fJ f,dX s):Fc prog 25 [.agg (aJ f)] (bg (b_ f)):=by
 by_cases h:iO f=[]
 ·exact akm f hn hs h
 ·exact akn f hn hs h
end Go.T
namespace Go.T
open Go
variable[bX]
structure FE where
 key:aa
 id:Nat
 rows:List aa
 live:Bool:=true
abbrev cm(l:List aa):List (List D):=l.map fun s=>[D.str s]
structure bz where
 next:Nat
 cJ:List FE
 lo:∀e∈cJ,1000<=e.id/\e.id<next
 nd:(cJ.map (·.id)).Nodup
 hn:1000<=next
def bz.empty:bz:=⟨1000,[],by simp,by simp,by omega⟩
def FE.ob(e:FE):Ob:=if e.live then .arr 1 (cm e.rows)else .dead
def cV(f:bz):ae:=f.cJ.map fun e=>(e.id,e.ob)
def gI(f:bz):List (aa×(Nat×Nat)):=f.cJ.map fun e=>(e.key,(e.id,e.rows.length))
@[reducible] def ku(p:Nat×Nat):D:=.gs p.1 p.2
theorem Ug:∀(l:List FE)(i:Nat)(o:Ob),ae.get (l.map fun e=>(e.id,e.ob)) i=some o->∃e∈l,e.id=i/\e.ob=o
 |[],i,o,h=>by simp[ae.get]at h
 |e::l,i,o,h=>by
  rw[cP,ae.bm]at h;by_cases c:e.id=i
  ·rw[aV c]at h;cases h;exact⟨e,c7,c,rfl⟩
  ·rw[aF c]at h;obtain⟨e',h1,h2⟩:=Ug l i o h;exact⟨e',cC _ h1,h2⟩
theorem Uh:∀(l:List FE),(l.map (·.id)).Nodup->∀e∈l,ae.get (l.map fun e=>(e.id,e.ob)) e.id=some e.ob
 |[],_,e,h=>by cases h
 |a::l,hn,e,h=>by
  rw[cP,kr]at hn;rw[cP,ae.bm];rcases cr.1 h with rfl|h
  ·rw[aV rfl]
  ·rw[aF (fun c=>hn.1 (dh.2 ⟨e,h,c.symm⟩))];exact Uh l hn.2 e h
def C3(f:bz){i:Nat}{o:Ob}(h:(cV f).get i=some o):∃e∈f.cJ,e.id=i/\e.ob=o:=Ug _ i o h
def Ax(f:bz){e:FE}(h:e∈f.cJ):(cV f).get e.id=some e.ob:=Uh _ f.nd e h
def LC(f:bz)(i:Nat)(hi:i<1000):(cV f).get i=none:=by
 cases h:(cV f).get i with
 |none=>rfl
 |some o=>
  obtain⟨e,h1,h2,_⟩:=C3 f h;have:=f.lo e h1;omega
def Ay(f:bz)(i:Nat)(_:0<=i)(hi:i<0+100):(cV f).get i=none:=LC f i zO
def ag7(f:bz):(cV f).get f.next=none:=by
 cases h:(cV f).get f.next with
 |none=>rfl
 |some o=>
  obtain⟨e,h1,h2,_⟩:=C3 f h;have:=f.lo e h1;omega
def LD(f:bz)(g:Nat->Bool):∀i x,(cV f).get i=some x->x.okB g=true:=fun i x h=>by
 obtain⟨e,_,_,rfl⟩:=C3 f h;unfold FE.ob;split<;>rfl
def yi{own kf:ae}(f:bz)(eJ:mT 0 own=true):∀i x,(cV f).get i=some x->ae.get (own++cV f) i=some x/\x.okB (ae.has (kf++cV f))=true:=
 fun i x h=>⟨vu eJ (Ay f) i x h,LD f _ i x h⟩
def yh(f:bz)(k:aa):Option FE:=f.cJ.find? fun e=>decide (k=e.key)
def jG(f:bz)(k:aa):List aa:=((yh f k).map (·.rows)).getD []
def sY(f:bz)(k:aa):Nat:=((yh f k).map (·.id)).getD 99
def ahW(f:bz)(k:aa):ei (99,0) (gI f) k=(sY f k,(jG f k).length):=by
 unfold gI sY jG yh;induction f.cJ with
 |nil=>rfl
 |cons e l ih=>
  simp only[cP,ei,HX];by_cases c:k=e.key
  ·rw[aV c];simp[c]
  ·rw[aF c,ih];simp[c]
def kR(l:List FE)(k:aa)(i:Nat)(r:List aa):List FE:=match l with
 |[]=>[⟨k,i,r,true⟩]
 |e::l=>if k=e.key then⟨k,i,r,true⟩::l else e::kR l k i r
theorem E7{k:aa}{i:Nat}{r:List aa}:∀{l:List FE}{e:FE},e∈kR l k i r->e∈l\/e=⟨k,i,r,true⟩
 |[],e,h=>.inr (kl.1 h)
 |a::l,e,h=>by
  simp only[kR]at h;split at h
  ·rcases cr.1 h with h|h
   ·exact .inr h
   ·exact .inl (cC _ h)
  ·rcases cr.1 h with h|h
   ·exact .inl (h▸c7)
   ·exact(E7 h).imp (cC _) id
theorem aak{k:aa}{i:Nat}{r:List aa}:∀{l:List FE},(l.map (·.id)).Nodup->i∉l.map (·.id)->((kR l k i r).map (·.id)).Nodup
 |[],_,_=>by simp[kR]
 |a::l,hn,hi=>by
  rw[cP,kr]at hn;rw[cP,cr,HW]at hi;simp only[kR];split
  ·rw[cP,kr];exact⟨hi.2,hn.2⟩
  ·rw[cP,kr];refine⟨fun h=>?_,aak hn.2 hi.2⟩;obtain⟨e,he,e2⟩:=dh.1 h;rcases E7 he with he|rfl
   ·exact hn.1 (dh.2 ⟨e,he,e2⟩)
   ·exact hi.1 e2
def bz.add(f:bz)(k:aa)(new:List aa):bz:=⟨f.next+1,kR f.cJ k f.next (jG f k++new),fun e h=>by
 rcases E7 h with h|rfl
 ·have:=f.lo e h;omega
 ·exact⟨f.hn,by simp⟩,aak f.nd (fun h=>by
 obtain⟨e,he,e2⟩:=dh.1 h;have:=f.lo e he;omega),by have:=f.hn;omega⟩
def Ti(f:bz)(k:aa)(new:List aa):eD (gI f) k (f.next,(jG f k).length+new.length)=gI (f.add k new):=by
 unfold bz.add gI;simp only;rw[<-bl];generalize jG f k++new=r;induction f.cJ with
 |nil=>rfl
 |cons e l ih=>
  simp only[cP,eD,kR];split
  ·rfl
  ·rw[ih,cP]
def agZ(f:bz)(k:aa)(own:ae)(eJ:mT 0 own=true)(Mq:own.get 99=some (.arr 1 []))(hl:∀e∈f.cJ,e.live=true):ae.get (own++cV f) (sY f k)=some (.arr 1 (cm (jG f k))):=by
 unfold sY jG;cases h:yh f k with
 |none=>
  rw[ae.get_append];simp only[K3,JN,Mq];rfl
 |some e=>
  have he:e∈f.cJ:=En h;have h1:=Ax f he;have:=vu eJ (Ay f) _ _ h1;simp only[jk,l8];rw[this];unfold FE.ob;rw[aV (hl e he)]
def ag0(f:bz)(k:aa):sY f k=99\/1000<=sY f k:=by
 unfold sY;cases h:yh f k with
 |none=>exact .inl rfl
 |some e=>exact .inr (f.lo e (En h)).1
end Go.T
namespace Go.T
open Go
variable[bX]
theorem aal{k:aa}{i:Nat}{r:List aa}:∀{l:List FE},(l.map (·.id)).Nodup->(∀e∈l,1000<=e.id)->∀{e:FE},e∈kR l k i r->e=⟨k,i,r,true⟩\/(e∈l/\e.id≠(((l.find? fun e=>decide (k=e.key)).map (·.id)).getD 99))
 |[],_,_,e,h=>.inl (kl.1 h)
 |a::l,hn,td,e,h=>by
  rw[cP,kr]at hn;simp only[kR]at h;by_cases c:k=a.key
  ·rw[aV c]at h;rcases cr.1 h with h|h
   ·exact .inl h
   ·right;refine⟨cC _ h,?_⟩;rw[ux (by simpa using c)];exact fun e2=>hn.1 (dh.2 ⟨e,h,e2⟩)
  ·rw[aF c]at h;rw[rv (by simpa using c)];rcases cr.1 h with rfl|h
   ·right;refine⟨c7,fun e2=>?_⟩;cases hf:l.find? fun e=>decide (k=e.key)with
    |none=>
     rw[hf]at e2;have:=td e c7;simp only[K3,JN]at e2;omega
    |some x=>
     rw[hf]at e2;exact hn.1 (dh.2 ⟨x,En hf,e2.symm⟩)
   ·rcases aal hn.2 (fun e h=>td e (cC _ h)) h with h|⟨h,h2⟩
    ·exact .inl h
    ·exact .inr ⟨cC _ h,h2⟩
variable{P:Program} {env:Env} {dst:Option Tmp} {ty:TypeId} {pos:String} {ar:Array Edge} {g:Option (Nat×Bool)}
def ann(w:World)(O:Nat->Prop)(ρ:aA):V w O ρ (ku (99,0)) (.slice none 0 0):=by
 simp[V]
def ZK{kt et:TypeId}(hK:lC P kt D.str Fu dX){t:TypeId}{x y:Operand}{m:Nat}{f:bz}{k:aa}{kd:D}{Z:ae}(hu:P.underlying t=some (.map kt et))(hz:∀w,(zeroValue et).run P w=.ok (.slice none 0 0) w)
  (hx:env.op x=some (.cL m))(hy:env.op y=some kd)(rQ:kd=D.str k)(ho:Z.get m=some (.mp (bP D.str ku (gI f)))):
  aq P ⟨dst,.lookup t x y false,ty,pos,ar,g⟩ env Z (.gs (sY f k) (jG f k).length) Z:=by
 have:=EW (dst:=dst) (ty:=ty) (pos:=pos) (ar:=ar) (g:=g) hK (vD:=ku) (m:=gI f) (k:=k) (d:=(99,0)) hu hz ann hx hy rQ ho;rw[ahW]at this;exact this
def yg(own:ae)(f:bz)(k:aa)(new:List aa):ae:=(f.next,.arr 1 (cm (jG f k)++cm new))::(own++cV f).set (sY f k) .dead
def ZA{st xt e e':TypeId}{ti:TypeInfo}{z:Value}{bt:Nat}{x y:Operand}{fP:Bool}{own:ae}{f:bz}{k:aa}{new:List aa}(hu:P.underlying st=some (.slice e))(ia:P.underlying xt=some (.slice e'))(hs:∀w,(sizeOf e).run P w=.ok 1 w)
  (jq:∀w,(typeInfo e).run P w=.ok ti w)(hz:∀w,(zeroValue e).run P w=.ok z w)(p7:z.cells.size=1)(kA:ti.bytes=bt)(uL:Nat.beq bt 0=false)(eJ:mT 0 own=true)(Mq:own.get 99=some (.arr 1 []))(hl:∀e∈f.cJ,e.live=true)
  (hx:env.op x=some (.gs (sY f k) (jG f k).length))(hy:env.op y=some (.snap 1 fP (cm new)))(nK:((jG f k).length+new.length)*bt<=140737488355328):
  aq P ⟨dst,.call ⟨.builtin .append,#[x,y],#[st,xt]⟩,ty,pos,ar,g⟩ env (own++cV f) (.gs f.next ((jG f k).length+new.length)) (yg own f k new):=by
 have hid:ae.get (own++cV f) f.next=none:=by
  rw[ae.get_append];have:own.get f.next=none:=by
   cases h:own.get f.next with
   |none=>rfl
   |some o=>have:=tt eJ f.next (ae.iW.2 ⟨o,h⟩);have:=f.hn;omega
  rw[this];exact ag7 f
 have:=ee (dst:=dst) (ty:=ty) (pos:=pos) (ar:=ar) (g:=g) f.next hu ia hs jq hz p7 kA uL hx (agZ f k own eJ Mq hl) zS hy hid (by simpa using nK);simp only[bB]at this;exact this
def LA{own:ae}{f:bz}{k:aa}{new:List aa}{m:Nat}(hm:m<99):(yg own f k new).get m=ae.get (own++cV f) m:=by
 have h1:=ag0 f k;have h2:=f.hn;unfold yg;rw[ae.bm,aF zO,ae.ej,aF zO]
def EG{own:ae}{f:bz}{m:Nat}{o:Ob}(h:own.get m=some o):ae.get (own++cV f) m=some o:=by
 rw[ae.get_append,h]
def Tl{own kf:ae}{f:bz}{k:aa}{new:List aa}{m:Nat}{o':Ob}(hm:m<99)(eJ:mT 0 own=true):∀i x,(cV (f.add k new)).get i=some x->ae.get ((99,.arr 1 [])::(yg own f k new).set m o') i=some x/\x.okB (ae.has (kf++cV (f.add k new)))=true:=by
 intro i x h;refine⟨?_,LD _ _ i x h⟩;obtain⟨e,he,rfl,rfl⟩:=C3 _ h;have td:=(f.add k new).lo e he;rw[ae.bm,aF zO,ae.ej,aF zO];unfold yg;rw[ae.bm];rcases aal f.nd (fun e h=>(f.lo e h).1) he with rfl|⟨h1,h2⟩
 ·rw[aV rfl];simp[FE.ob,cm]
 ·have:=f.lo e h1;rw[aF zO,ae.ej,aF (fun c=>h2 c.symm)];exact vu eJ (Ay f) _ _ (Ax f h1)
end Go.T
namespace Go.T
open Go
variable[bX]
variable{P:Program} {env:Env} {dst:Option Tmp} {ty:TypeId} {pos:String} {ar:Array Edge} {g:Option (Nat×Bool)}
def Az{own:ae}{f:bz}{i:Nat}(h:own.get i=none)(hi:Nat.blt i 1000=true):ae.get (own++cV f) i=none:=by
 rw[ae.get_append,h];exact LC f i (by simpa[jE]using hi)
theorem PK(pre:ae):∀(a b:ae),ae.rest (a++b) pre=ae.rest a pre++ae.rest b pre
 |[],b=>rfl
 |(t,d)::a,b=>by
  rw[jF];simp only[ae.rest];cases pre.has t with
  |true=>rw[iX,iX];exact PK pre a b
  |false=>rw[jh,jh,PK pre a b];rfl
theorem Z5{pre:ae}:∀{b:ae},(∀p∈b,pre.has p.1=false)->ae.rest b pre=b
 |[],_=>rfl
 |(t,d)::b,h=>by
  simp only[ae.rest];rw[h (t,d) c7,jh,Z5 fun p hp=>h p (cC _ hp)]
def alY{pre:ae}(eJ:mT 0 pre=true){i:Nat}(hi:100<=i):pre.has i=false:=by
 cases h:pre.has i with
 |false=>rfl
 |true=>have:=tt eJ i h;omega
def ag5{f:bz}{p:Nat×Ob}(h:p∈cV f):1000<=p.1:=by
 obtain⟨e,he,rfl⟩:=dh.1 h;exact(f.lo e he).1
def EU{fn:FuncId}{xs:List Operand}{tys:Array TypeId}{ds:List D}{r:D}{pre post own:ae}{f:bz}
  (fA:∀(args:Array Value)(w:World),(callFunc fn args).run P w=.ok (.enter fn args) w)(hx:env.kM xs=some ds)(hf:dB P fn ds pre r post)(eJ:mT 0 pre=true)(hip:mT 0 post=true)(fh:iQ pre (own++cV f) pre)(uN:D.okB.fM pre.has ds=true)(mO:sU post (own.rest pre)=true):
  aq P ⟨dst,.call ⟨.value (.func fn),xs.toArray,tys⟩,ty,pos,ar,g⟩ env (own++cV f) r (post++(own.rest pre++cV f)):=by
 have e1:ae.rest (own++cV f) pre=own.rest pre++cV f:=by
  rw[PK,Z5 (b:=cV f) fun p hp=>alY eJ (by have:=ag5 hp;omega)]
 have e2:sU post (own.rest pre++cV f)=true:=by
  unfold sU at mO|-;rw[de]at mO|-;intro p hp;have h1:=mO p hp;have h2:=tt hip p.1 (MA (dh.2 ⟨p,hp,rfl⟩));simp only[lD,ae.has,ae.get_append]at h1|-;cases h3:ae.get (own.rest pre) p.1 with
  |some o=>rw[h3]at h1;simp at h1
  |none=>simp[LC f p.1 zO]
 have:=gv (dst:=dst) (ty:=ty) (pos:=pos) (ar:=ar) (g:=g) (tys:=tys) (Z:=own++cV f) fA hx hf fh uN (by rw[e1];exact e2);rw[e1]at this;exact this
def apa{fn:FuncId}{xs:List Operand}{tys:Array TypeId}{ds:List D}{r:D}{own:ae}{f:bz}{e:FE}{o':Ob}(he:e∈f.cJ)(eJ:mT 0 own=true)
  (fA:∀(args:Array Value)(w:World),(callFunc fn args).run P w=.ok (.enter fn args) w)(hx:env.kM xs=some ds)(hf:dB P fn ds [(e.id,e.ob)] r [(e.id,o')])(uN:D.okB.fM (ae.has [(e.id,e.ob)]) ds=true):
  aq P ⟨dst,.call ⟨.value (.func fn),xs.toArray,tys⟩,ty,pos,ar,g⟩ env (own++cV f) r ((e.id,o')::ae.rest (own++cV f) [(e.id,e.ob)]):=
 gv fA hx hf (.cons (yi (kf:=own) f eJ _ _ (Ax f he)).1 (by unfold FE.ob;split<;>rfl) .nil) uN (by
  simp only[sU,kJ,JK,AA,lD];cases h:ae.has (ae.rest (own++cV f) [(e.id,e.ob)]) e.id with
  |false=>rfl
  |true=>
   obtain⟨x,hx⟩:=ae.iW.1 h;rw[ae.s3]at hx;simp[ae.has,ae.bm]at hx)
def qV:List FE->Nat->List FE
 |[],_=>[]
 |e::l,0=>{e with live:=false}::l
 |e::l,j+1=>e::qV l j
theorem NH:∀(l:List FE)(j:Nat),(qV l j).map (·.id)=l.map (·.id)
 |[],_=>rfl
 |_::_,0=>rfl
 |e::l,j+1=>by rw[qV,cP,NH l j,cP]
theorem Wv:∀(l:List FE)(j:Nat),(qV l j).map (fun e=>(e.key,(e.id,e.rows.length)))=l.map (fun e=>(e.key,(e.id,e.rows.length)))
 |[],_=>rfl
 |_::_,0=>rfl
 |e::l,j+1=>by rw[qV,cP,Wv l j,cP]
theorem Wu:∀(l:List FE)(j i:Nat),(qV l j)[i]?=if i=j then(l[i]?).map (fun e=>{e with live:=false})else l[i]?
 |[],_,i=>by simp[qV]
 |e::l,0,0=>by simp[qV]
 |e::l,0,i+1=>by simp[qV]
 |e::l,j+1,0=>by simp[qV]
 |e::l,j+1,i+1=>by
  simp only[qV,wK,Wu l j i,Nat.add_right_cancel_iff]
def bz.kill(f:bz)(j:Nat):bz:=⟨f.next,qV f.cJ j,fun e h=>by
 obtain⟨e',h1,h2⟩:=dh.1 ((NH f.cJ j)▸dh.2 ⟨e,h,rfl⟩:e.id∈f.cJ.map (·.id));rw[<-h2];exact f.lo e' h1,by rw[NH];exact f.nd,f.hn⟩
def ag2(f:bz)(j:Nat):gI (f.kill j)=gI f:=Wv f.cJ j
def Ww(f:bz)(j i:Nat):(f.kill j).cJ[i]?=if i=j then(f.cJ[i]?).map (fun e=>{e with live:=false})else f.cJ[i]?:=Wu ..
def Tk{Z kf:ae}{f:bz}{j:Nat}{e:FE}(hj:f.cJ[j]?=some e)(hd:Z.get e.id=some .dead)(ho:∀i x,i≠e.id->(cV f).get i=some x->Z.get i=some x):∀i x,(cV (f.kill j)).get i=some x->Z.get i=some x/\x.okB (ae.has (kf++cV (f.kill j)))=true:=by
 intro i x h;refine⟨?_,LD _ _ i x h⟩;obtain⟨e',he,rfl,rfl⟩:=C3 _ h;obtain⟨i',kG⟩:=mw he;rw[Ww]at kG;by_cases c:i'=j
 ·subst c;rw[aV rfl,hj]at kG;cases kG;exact hd
 ·rw[aF c]at kG;have hm:=dj kG;refine ho _ _ (fun c2=>c ?_) (Ax f hm)
  -- ids are distinct
  have h1:(f.cJ.map (·.id))[i']?=some e.id:=by rw[fR,kG];simp[c2]
  have h2:(f.cJ.map (·.id))[j]?=some e.id:=by rw[fR,hj];rfl
  obtain⟨a1,b1⟩:=cI.1 h1;obtain⟨a2,b2⟩:=cI.1 h2;have hp:=qC.1 f.nd;rcases q0 i' j with h3|h3|h3
  ·exact absurd (b1.trans b2.symm) (hp _ _ a1 a2 h3)
  ·exact h3
  ·exact absurd (b2.trans b1.symm) (hp _ _ a2 a1 h3)
end Go.T
namespace Go.T
open Go
def aqz{u:UM}{Ls:List (List aa)}(h:f_ u Ls)(x:aa):f_ (dU u x) ([x]::Ls):=by
 obtain⟨a1,a2,a3,a4⟩:=FU h.rJ x;have kE:∀y,named ([x]::Ls) y↔y=x\/named Ls y:=fun y=>by
  constructor
  ·rintro⟨l,hl,hy⟩;rcases cr.1 hl with rfl|hl
   ·exact .inl (kl.1 hy)
   ·exact .inr ⟨l,hl,hy⟩
  ·rintro(rfl|⟨l,hl,hy⟩)
   ·exact⟨_,c7,kl.2 rfl⟩
   ·exact⟨l,cC _ hl,hy⟩
 have cE:∀{y z:aa},gk ([x]::Ls) y z->gk Ls y z:=fun hc=>by
  induction hc with
  |refl x=>exact .refl x
  |symm _ ih=>exact .symm ih
  |trans _ _ ih po=>exact .trans ih po
  |one hl hx hy=>
   rcases cr.1 hl with rfl|hl
   ·rw[kl.1 hx,kl.1 hy];exact .refl _
   ·exact .one hl hx hy
 have cU:∀{y z:aa},gk Ls y z->gk ([x]::Ls) y z:=fun hc=>hc.mono fun l hl=>⟨l,cC _ hl,fun _=>id⟩;refine⟨a1,fun y=>(a2 y).trans ((or_congr Iff.rfl (h.keys y)).trans (kE y).symm),fun y z hy hz=>?_,QV x h.nd⟩;by_cases k_:y∈aE u<;>by_cases ld:z∈aE u
 ·rw[a3 y k_,a3 z ld];exact(h.conn y z k_ ld).trans ⟨cU,cE⟩
 ·obtain rfl:z=x:=((a2 z).1 hz).resolve_right ld;rw[a3 y k_,a4 ld];obtain⟨rk,hf⟩:=h.rJ.yk;refine⟨fun e=>absurd ((hf.Cg _ y rfl k_).1) (by rw[e];exact ld),fun hc=>?_⟩;rcases(cE hc).named with rfl|⟨_,h2⟩
  ·exact absurd k_ ld
  ·exact absurd ((h.keys _).2 h2) ld
 ·obtain rfl:y=x:=((a2 y).1 hy).resolve_right k_;rw[a3 z ld,a4 k_];obtain⟨rk,hf⟩:=h.rJ.yk;refine⟨fun e=>absurd ((hf.Cg _ z rfl ld).1) (by rw[<-e];exact k_),fun hc=>?_⟩;rcases(cE hc).named with rfl|⟨h2,_⟩
  ·exact absurd ld k_
  ·exact absurd ((h.keys _).2 h2) k_
 ·obtain rfl:y=x:=((a2 y).1 hy).resolve_right k_;obtain rfl:z=y:=((a2 z).1 hz).resolve_right ld;exact⟨fun _=>.refl _,fun _=>rfl⟩
def fe(l:List Fact)(k:aa):List aa:=((l.filter fun f=>decide (f.key=k)).map b_).flatten
def KQ(l:List Fact)(x:Fact)(k:aa):fe (l++[x]) k=fe l k++if x.key=k then b_ x else[]:=by
 unfold fe;by_cases h:x.key=k
 ·simp[nq,h]
 ·simp[nq,h]
structure xN(fm:bz)(l:List Fact):Prop where
 live:∀e∈fm.cJ,e.live=true
 rows:∀k,jG fm k=fe l k
 keys:∀k,k∈fm.cJ.map (·.key)↔k∈l.map (·.key)
 nd:(fm.cJ.map (·.key)).Nodup
def ag1:xN bz.empty []:=⟨by simp[bz.empty],fun k=>rfl,by simp[bz.empty],by simp[bz.empty]⟩
theorem Js{k:aa}{i:Nat}{r:List aa}:∀(l:List FE)(y:aa),y∈(kR l k i r).map (·.key)↔y=k\/y∈l.map (·.key)
 |[],y=>by simp[kR]
 |e::l,y=>by
  simp only[kR];split
  ·rename_i c;subst c;simp
  ·simp only[cP,cr,Js l y];constructor
   ·rintro(h|h|h)
    ·exact .inr (.inl h)
    ·exact .inl h
    ·exact .inr (.inr h)
   ·rintro(h|h|h)
    ·exact .inr (.inl h)
    ·exact .inl h
    ·exact .inr (.inr h)
theorem PU{k:aa}{i:Nat}{r:List aa}:∀(l:List FE),(l.map (·.key)).Nodup->((kR l k i r).map (·.key)).Nodup
 |[],_=>by simp[kR]
 |e::l,h=>by
  rw[cP,kr]at h;simp only[kR];split
  ·rename_i c;subst c;rw[cP,kr];exact h
  ·rename_i c;rw[cP,kr];refine⟨fun h2=>?_,PU l h.2⟩;rcases(Js l _).1 h2 with h3|h3
   ·exact c h3.symm
   ·exact h.1 h3
def Th(f:bz)(k:aa)(new:List aa)(y:aa):jG (f.add k new) y=if y=k then jG f k++new else jG f y:=by
 have key:∀(r:List aa)(i:Nat)(l:List FE),((((kR l k i r).find? fun e=>decide (y=e.key)).map (·.rows)).getD [])=if y=k then r else(((l.find? fun e=>decide (y=e.key)).map (·.rows)).getD []):=by
  intro r i l;induction l with
  |nil=>
   simp only[kR,HX];by_cases c:y=k<;>simp[c]
  |cons e l ih=>
   simp only[kR];by_cases c:k=e.key
   ·rw[aV c];by_cases d:y=k
    ·rw[ux (by simpa using d)];simp[d]
    ·rw[rv (by simpa using d),rv (by simpa[<-c]using d),aF d]
   ·rw[aF c];by_cases d:y=e.key
    ·rw[ux (by simpa using d),ux (by simpa using d),aF (fun(e2:y=k)=>c (e2.symm.trans d))]
    ·rw[rv (by simpa using d),rv (by simpa using d),ih]
 exact key _ _ _
theorem xN.add{fm:bz}{l:List Fact}(h:xN fm l)(x:Fact):xN (fm.add x.key (b_ x)) (l++[x]):=by
 refine⟨fun e he=>?_,fun k=>?_,fun k=>?_,PU _ h.nd⟩
 ·rcases E7 he with he|rfl
  ·exact h.live e he
  ·rfl
 ·rw[Th,KQ,h.rows k,h.rows x.key];by_cases c:k=x.key
  ·rw[aV c,aV c.symm,c]
  ·rw[aF c,aF (fun e=>c e.symm),iJ]
 ·have:=Js (k:=x.key) (i:=fm.next) (r:=jG fm x.key++b_ x) fm.cJ k;show k∈(kR _ _ _ _).map (·.key)↔_;rw[this,h.keys k];simp[or_comm]
def BT(own:ae)(f:bz):(Ob.mp (bP D.str ku (gI f))).okB (ae.has (own++cV f))=true:=by
 have hid:∀e∈f.cJ,ae.has (own++cV f) e.id=true:=fun e he=>by
  have h1:=Ax f he;simp only[ae.has,ae.get_append];cases own.get e.id<;>simp[h1]
 have key:∀(l:List FE),(∀e∈l,ae.has (own++cV f) e.id=true)->(Ob.mp (bP D.str ku (l.map fun e=>(e.key,(e.id,e.rows.length))))).okB (ae.has (own++cV f))=true:=by
  intro l hl;induction l with
  |nil=>rfl
  |cons e l ih=>
   have h1:=ih fun e he=>hl e (cC _ he);have h2:=hl e c7;simp only[Ob.okB,bP,cP,D.okB.fM,D.okB,bd,oL]at h1|-;exact⟨h1.1,h2,h1.2⟩
 exact key f.cJ hid
end Go.T
