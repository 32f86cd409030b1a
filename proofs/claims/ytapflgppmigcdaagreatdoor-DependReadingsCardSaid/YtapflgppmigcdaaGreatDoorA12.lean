/- Contracts of functions that the statement reaches, and the logic in which they are proved (no condition). -/
import Derived.Test.YtapflgppmigcdaaGreatDoorA11
import Derived.Shelf.SlSortCmp.WholeK
set_option linter.all false
set_option maxRecDepth 20000
namespace Go.T
open Go Go.Proofs Go.Shelf Go.RowKit Go.Lib Go.Sort
@[reducible] def calm:bX:=⟨False⟩
def aiD{w w':World}(h:@gm calm w w'):∃q os',w'=Sort.grow (w.drewN q) os':=by
  obtain⟨h1,h2,h3,h4,h5⟩:=h;have h6:w'.tape=w.tape/\w.drawn<=w'.drawn:=by
    rcases h5 with h|h
    · exact h
    · exact h.elim
  clear h5;refine⟨w'.drawn-w.drawn,w'.heap.extract w.heap.size w'.heap.size,?_⟩;have hh:w'.heap=w.heap++w'.heap.extract w.heap.size w'.heap.size:=by
    apply AG;intro i;rcases eQ i w.heap.size with g|g
    · rw[oY g,h2 i g]
    · rw[Array.getElem?_append_right g,Array.getElem?_extract]
      by_cases e:i<w'.heap.size
      · rw[aV zO];congr 1;omega
      · rw[aF zO,tT zO]
  have hd:(w.drewN (w'.drawn-w.drawn))={w with drawn:=w'.drawn}:=by
    unfold World.drewN;congr 1;omega
  rw[hd];unfold Sort.grow;cases w';simp only at*;obtain⟨h6,_⟩:=h6;subst h3;subst h4;subst h6
  congr 1
section
variable{α:Type} [Inhabited α] {P:Program}
structure JP(k:Nat)(o9:α->List D)(ot:α->List Value):Prop where
  len:∀x,(ot x).length=k
  NR:∀x,(o9 x).length=k
  one:∀x,∀v∈ot x,v.oneCell'=true
  toV:∀x(w:World)(O:Nat->Prop)(ρ:aA) vs,Vs w O ρ (o9 x) vs->vs=ot x
  back:∀x(w:World)(O:Nat->Prop)(ρ:aA),Vs w O ρ (o9 x) (ot x)
variable{k:Nat} {o9:α->List D} {ot:α->List Value}
def U0{w:World}{cp off m:Nat}{dk:Array α}{os:Array Obj}{b:Nat}(hb:b<w.heap.size)(aC:b≠cp):(sortWorldK ot k w cp off m dk os).heap[b]?=w.heap[b]?:=by
  unfold sortWorldK putRowK putRow mapBlock Sort.grow Sort.ahead;simp only;rw[oY (by simpa using hb),sD,aF (qc aC)]
def M'(hE:JP k o9 ot){w:World}{O:Nat->Prop}{b off:Nat}{c:Array Value}{T:TypeId}{l:List α}(hb:w.heap[b]?=some (.cells c T (0,0)))(h:Vr w O b off k (l.map o9)):HoldsK ot k w b off l.toArray:=by
  intro j hj;rw[size_flatK]at hj;simp only[Bz]at hj;have k0:0<k:=by
      rcases ko k with e|e;· subst e;simp at hj
      · exact e
  have hi:j/k<l.length:=by rw[y_ k0];exact hj
  have hc:j%k<k:=n0 _ k0;rw[get_flatK _ _ _ _ (by simpa using hj)];obtain⟨_,h1⟩:=h.get _ _ (j/k) (o9 l[j/k]) (by simp[hi]);have wO:j%k<(o9 l[j/k]).length:=by rw[hE.NR];exact hc
  obtain⟨d,hd⟩:∃d,(o9 l[j/k])[j%k]?=some d:=⟨(o9 l[j/k])[j%k],eu wO⟩;have j7:=Vc.JE hb _ _ h1;have hv:=hE.toV _ _ _ _ _ j7.1;obtain⟨v,g1,g2⟩:=Vc.get _ _ h1 _ _ hd;have e:off+j/k*k+j%k=off+j:=by have:=wz j k;rw[fO]at this;omega
  rw[e]at g1;have g3:(ot l[j/k])[j%k]?=some v:=by
    rw[<-hv];have:c[off+j]?=some v:=by simpa[World.cell?,hb]using g1
    rw[Er,aV (by rw[hE.NR];exact hc),Ir,e];simpa using this
  refine⟨?_,by simp[World.frozen?,hb]⟩;rw[g1];have e1:(l.toArray)[j/k]! =l[j/k]:=by simp[hi]
  have e2:(ot l[j/k])[j%k]! =v:=by rw[List.getElem!_eq_getElem?_getD,g3];rfl
  rw[e1,e2];rfl
def QM(hE:JP k o9 ot){w:World}{O:Nat->Prop}{b off:Nat}{l:List α}(h:HoldsK ot k w b off l.toArray):Vr w O b off k (l.map o9):=by
  have key:∀(r pre:List α),l=pre++r->Vr w O b (off+pre.length*k) k (r.map o9):=by
    intro r;induction r with
    |nil=>intro _ _;simp[Vr]
    |cons x r ih=>
      intro pre hp;simp only[cP,Vr];have hi:pre.length<l.toArray.size:=by subst hp;simp
      refine⟨⟨hE.NR x,?_⟩,?_⟩
      · have hx:(l.toArray)[pre.length]! =x:=by subst hp;simp
        have cell:∀c,c<k->w.cell? ⟨b,off+pre.length*k+c,none⟩=some (ot x)[c]!:=fun c hc=>by
          have:=(h.cell hi hc).1;rwa[hx]at this
        have gen:∀(ds:List D)(us:List Value)(n:Nat),Vs w O dZ ds us->(∀u∈us,u.oneCell'=true)->(∀j u,us[j]?=some u->w.cell? ⟨b,n+j,none⟩=some u)->Vc w O b n ds:=by
          intro ds;induction ds with
          |nil=>intro us n _ _ _;simp[Vc]
          |cons d ds ih2=>
            intro us n h1 h2 h3;simp only[Vs]at h1;obtain⟨u,zU,rfl,h4,h5⟩:=h1;simp only[Vc];refine⟨⟨u,⟨by simpa using h3 0 u rfl,h2 u zS⟩,h4⟩,ih2 zU (n+1) h5 (fun v hv=>h2 v (by simp[hv])) (fun j v hj=>?_)⟩;have:=h3 (j+1) v (by simpa using hj);rwa[show n+(j+1)=n+1+j by omega]at this
        refine gen _ (ot x) _ (hE.back x w O dZ) (hE.one x) (fun j u hj=>?_);have hjk:j<k:=by rw[<-hE.len x];exact(cI.1 hj).1
        rw[cell j hjk,List.getElem!_eq_getElem?_getD,hj];rfl
      · have:=ih (pre++[x]) (by simp[hp])
        simp only[bl,nR,dO,qA]at this;rwa[l6]
  simpa using key l [] rfl
end
variable[bX]
variable{α:Type} [Inhabited α] {P:Program} {k:Nat} {o9:α->List D} {ot:α->List Value}
def qE{id:Nat}{x o:Ob}{i:Nat}(h:ae.get [(id,x)] i=some o):i=id/\o=x:=by
 rw[ae.bm]at h;split at h
 ·rename_i e;cases h;exact⟨e.symm,rfl⟩
 ·simp[ae.get]at h
def L8{id:Nat}{x y:Ob}{i:Nat}(h:ae.get [(id,x)] i=none):ae.get [(id,y)] i=none:=by
 rw[ae.bm]at h|-;split at h
 ·cases h
 ·rename_i e;rw[aF e];rfl
end Go.T
namespace Go.T
open Go
open Go.ChangeMaps (setBlock)
variable[bX]
variable{κ β:Type} [DecidableEq κ]
@[reducible] def w6(kD:κ->D)(vD:β->D)(m:List (κ×β)):D:=.pq (m.map fun p=>kD p.1) (m.map fun p=>vD p.2)
section
variable{P:Program} {kt:TypeId} {kD:κ->D} {kV:κ->Value} {it:κ->Prop} {vD:β->D}
def GC(hK:lC P kt kD kV it){w:World}{O:Nat->Prop}{b:Nat}{m:List (κ×β)}(h:xO w O b (m.map fun p=>kD p.1) (m.map fun p=>vD p.2)):
  ∃es,w.heap[b]?=some (.map es m.length)/\uf w O dZ kV vD es m/\∀k∈m.map (·.1),it k:=by
 obtain⟨es,h1,⟨h2,h3,h4⟩,h5,h6⟩:=h;have hl:=h5.length;simp only[bB,Ar]at hl h2;have key:∀(i:Nat)(k:κ)(v:β),m[i]?=some (k,v)->∃e:MapEntry,es[i]?=some e/\e.born=i/\e.key=kV k/\V w O dZ (vD v) e.val/\it k:=by
  intro i k v hi;have bA:i<es.size:=by rw[hl];exact(cI.1 hi).1
  obtain⟨u,g1,g2⟩:=h5.get i (kD k) (by simp[hi]);obtain⟨u',g3,g4⟩:=h6.get i (vD v) (by simp[hi]);have he:es[i]?=some es[i]:=by simp[bA]
  simp only[fR,jW,he,jk,cH]at g1 g3;subst g1;subst g3;have:=hK.val g2;exact⟨es[i],he,h4 i _ he,this.1,g4,this.2⟩
 refine⟨es,h2,⟨hl,fun i k v hi=>?_⟩,fun k hk=>?_⟩
 ·obtain⟨e,g1,g2,g3,g4,_⟩:=key i k v hi;exact⟨e,g1,g2,g3,g4⟩
 ·obtain⟨p,hp,rfl⟩:=dh.1 hk;obtain⟨i,hi⟩:=mw hp;obtain⟨_,_,_,_,_,g5⟩:=key i p.1 p.2 hi;exact g5
def Le.GW{F:Fr}{env:Env}{Z:ae}{m:List (κ×β)}(t id:Nat)(ht:env.get t=some (.cL id))(ho:Z.get id=some (.mp (bP kD vD m)))(hk:∀k,(kD k).bw=true)(uW:∀v,(vD v).bw=true):
  Le F env Z ((t,w6 kD vD m)::env) (Z.set id .dead):=.step fun O ρ w f ai hv=>by
 have aP:=Tr.die id ai;refine⟨ρ,aP,fun s d h=>?_⟩;rw[Env.bm]at h;by_cases e:t=s
 ·rw[aV e]at h;cases h;subst e;have uX:=hv t _ ht;simp only[V]at uX;obtain⟨l,e1,e⟩:=uX;obtain⟨l',h3,h4,es,h5,h6,h7⟩:=ai.own id _ ho rfl;rw[e1]at h3;cases h3;have j5:=aP.kept;refine FM.2 ⟨l.b,e,es,⟨(bH.1 h5).1,?_⟩,⟨by simpa[bP]using h5,by simp,fun i x hx=>?_⟩,?_,?_⟩
  ·rintro(hb|⟨i,x,l',g1,g2,g3,g4⟩)
   ·exact h4 hb
   ·have hx:=rG i x g1 g2;have:=ai.inj i id x _ l' l hx ho g2 rfl g3 e1 g4;subst this;rw[ae.ej]at g1;simp only[mX,cH]at g1;subst g1;simp[Ob.live]at g2
  ·have hi:i<m.length:=by
    have:=(bH.1 hx).1;rw[h6]at this;simpa[bP]using this
   obtain⟨x',g1,g2,_⟩:=h7 i (kD m[i].1) (vD m[i].2) (by simp[bP,hi]);rw[hx]at g1;cases g1;exact g2
  ·refine Vs.OS (by simpa[bP]using h6) fun i d v hd yO=>?_;simp only[fR,gx]at hd;obtain⟨p,hp,rfl⟩:=hd;obtain⟨x',g1,_,g3,_⟩:=h7 i (kD p.1) (vD p.2) (by simp[bP,hp]);simp only[fR,jW,g1,jk,cH]at yO;subst yO;exact V.mono j5 (bN.refl _) _ _ (V.pure _ _ (hk _) g3)
  ·refine Vs.OS (by simpa[bP]using h6) fun i d v hd yO=>?_;simp only[fR,gx]at hd;obtain⟨p,hp,rfl⟩:=hd;obtain⟨x',g1,_,_,g4⟩:=h7 i (kD p.1) (vD p.2) (by simp[bP,hp]);simp only[fR,jW,g1,jk,cH]at yO;subst yO;exact V.mono j5 (bN.refl _) _ _ (V.pure _ _ (uW _) g4)
 ·rw[aF e]at h;exact aP.V (hv s d h)
variable{env:Env} {dst:Option Tmp} {ty:TypeId} {pos:String} {ar:Array Edge} {g:Option (Nat×Bool)}
def apn(hK:lC P kt kD kV it){t et:TypeId}{x y:Operand}{m:List (κ×β)}{k:κ}{d:β}{kd md:D}{Z:ae}{zv:Value}(hu:P.underlying t=some (.map kt et))(hz:∀w,(zeroValue et).run P w=.ok zv w)(u0:∀(w:World) O ρ,V w O ρ (vD d) zv)
  (hx:env.op x=some md)(M6:md=w6 kD vD m)(hy:env.op y=some kd)(rQ:kd=kD k):
  aq P ⟨dst,.lookup t x y false,ty,pos,ar,g⟩ env Z (vD (ei d m k)) Z:=
 .val fun O ρ a w ai hv=>by
  subst rQ;subst M6;obtain⟨b,e1,rP⟩:=FM.1 (hv x (by simp[Op.operands]) _ hx);have dR:=hK.val (hv y (by simp[Op.operands]) _ hy);obtain⟨es,h4,h5,h6⟩:=GC hK rP;have rO:=fun b=>hK.check b k w dR.2;have jI:=hK.find k es.toList (m.map (·.1)) w h5.keys h6 dR.2;rcases C8 d k m 0 with⟨g1,g2,g3,_⟩|⟨j,gj,g1,g2,g3,_⟩
  ·refine⟨zv,?_,by rw[g3];exact u0 _ _ _⟩;rw[g1]at jI;simp[execOp,e1,dR.1,Instr.lookup,bW hu,MapKept.run_getObj_map h4,rO,jI,hz]
  ·obtain⟨e,k1,k2,k3,k4⟩:=h5.at_ j k _ g2;refine⟨e.val,?_,V.mono (Kept.refl _ _) (Ck ρ) _ _ k4⟩;rw[g1]at jI;simp only[jk,mD,jW,k1,l8]at jI;simp[execOp,e1,dR.1,Instr.lookup,bW hu,MapKept.run_getObj_map h4,rO,jI]
def apy{t WE et:TypeId}{x:Operand}{ks vs:List D}{Z:ae}(fb:Nat)(hu:P.underlying t=some (.map WE et))(hx:env.op x=some (.pq ks vs))(hid:Z.get fb=none):
  aq P ⟨dst,.range t x,ty,pos,ar,g⟩ env Z (.box fb 0) ((fb,.mj ks vs [])::Z):=
 .step fun O ρ a w ai hv=>by
  obtain⟨b,e1,rP⟩:=FM.1 (hv x (by simp[Op.operands]) _ hx);obtain⟨es,h1,⟨h2,_,_⟩,_⟩:=id rP;have hr:=run_range_map (P:=P) w t WE et b es ks.length hu h2;refine⟨.pointer (some ⟨w.heap.size,0,none⟩),_,T.cn ρ fb ⟨w.heap.size,0,0⟩,.inl ?_,Tr.born ai hid (.mapIter (some b) ks.length #[] ks.length) rfl (fun i x h _=>h) (fun i h=>h) ?_,?_⟩
  ·simp only[execOp,e1];rw[Sem.run_bind,hr];rfl
  ·intro hk;exact⟨b,rP.mono hk,by simp⟩
  ·simp only[V];exact⟨⟨w.heap.size,0,0⟩,by simp[T.cn],rfl⟩
@[reducible] def vk(Z:ae)(fb:Nat)(ks vs:List D)(seen:List Nat):Option (Nat×κ×β)->ae
 |none=>Z
 |some (j,_,_)=>Z.set fb (.mj ks vs (seen++[j]))
def apu(hK:lC P kt kD kV it){x:Operand}{fb:Nat}{m:List (κ×β)}{seen:List Nat}{Z:ae}(hx:env.op x=some (.box fb 0))(hi:Z.get fb=some (.mj (m.map fun p=>kD p.1) (m.map fun p=>vD p.2) seen)):
  uj P ⟨dst,.next x false,ty,pos,ar,g⟩ env Z (Yr m seen) (tS kD vD) (vk Z fb (m.map fun p=>kD p.1) (m.map fun p=>vD p.2) seen):=by
 intro O ρ a w ai bY hv;have bZ:=hv x (by simp[Op.operands]) _ hx;simp only[V]at bZ;obtain⟨r,rR,e1⟩:=bZ;obtain⟨r',pn,_,b,rP,hit⟩:=ai.own fb _ hi rfl;rw[rR]at pn;cases pn;obtain⟨es,h4,h5,h6⟩:=GC hK rP;simp only[bB]at hit;have A5:∀x∈es.toList,x.born<m.length:=fun x hx=>by
  obtain⟨_,_,q,_⟩:=h5.mem hx;exact(cI.1 q).1
 unfold Oper.wp;have wS:(execOp a.eval ⟨dst,.next x false,ty,pos,ar,g⟩).run P w=((Instr.next (.pointer (some ⟨r.b,0,none⟩)) false ty).bind fun v=>Sem.pure (Next.value v)).run P w:=by
  simp only[execOp,e1];rfl
 rw[wS];rcases run_next_at (P:=P) w ty r.b b m.length m.length seen.toArray es m.length hit h4 A5 (dP _)with⟨hz,eY⟩|⟨e,he,w1,uY,eY⟩
 ·have:((Instr.next (.pointer (some ⟨r.b,0,none⟩)) false ty).bind fun v=>Sem.pure (Next.value v)).run P w=.ok (.value (.tuple #[.bool false])) w:=by
   show(Sem.bind _ _).run P w=_;rw[Sem.run_bind',eY];rfl
  rw[this];refine⟨none,ρ,_,?_,rfl,Tr.refl ai,by simp[V,Vs,D.b]⟩;intro j hj;have qT:leftOf es seen.toArray=#[]:=Array.eq_empty_of_size_eq_zero hz;obtain⟨e,g1,g2,_⟩:=h5.at_ j (m[j]).1 (m[j]).2 (by simp[hj]);unfold leftOf at qT;rw[Array.filter_eq_empty_iff]at qT;have qN:e∈es:=Array.mem_of_getElem? g1;have:=qT e qN;simp at this;rw[g2]at this;exact this
 ·have Dr:e∈es.toList/\e.born∉seen:=by
   unfold leftOf at he;simp at he;exact⟨by simpa using he.1,by simpa using he.2⟩
  obtain⟨k,v,g1,g2,g3,g4⟩:=h5.mem Dr.1;have:((Instr.next (.pointer (some ⟨r.b,0,none⟩)) false ty).bind fun v=>Sem.pure (Next.value v)).run P w=.ok (.value (.tuple #[.bool true,e.key,e.val])) (setBlock w1 r.b (.mapIter (some b) m.length (seen.toArray.push e.born) m.length)):=by
   show(Sem.bind _ _).run P w=_;rw[Sem.run_bind',eY];rfl
  rw[this];have p6:Tr O w ρ Z w1 ρ Z:=by
   rcases uY with rfl|rfl
   ·exact Tr.refl ai
   ·exact Tr.drawn ai _ (by first|exact vY _|omega)
  have MX:w1.heap[r.b]?=some (.mapIter (some b) m.length seen.toArray m.length):=by rcases uY with rfl|rfl<;>exact hit
  have j6:=Tr.cn (o':=.mj (m.map fun p=>kD p.1) (m.map fun p=>vD p.2) (seen++[e.born])) p6.ok hi rfl rR (.mapIter (some b) m.length (seen.toArray.push e.born) m.length) (fun s_=>⟨b,(rP.mono p6.kept).mono s_,by simp[(bH.1 MX).1]⟩);refine⟨some (e.born,k,v),ρ,_,⟨g1,Dr.2⟩,rfl,p6.trans j6,?_⟩;simp only[V,Vs,D.b];refine⟨_,rfl,_,_,rfl,rfl,_,_,rfl,?_,_,_,rfl,(p6.trans j6).V (V.mono (Kept.refl _ _) (Ck ρ) _ _ g4),rfl⟩;rw[g3];exact hK.back (h6 k (dh.2 ⟨(k,v),dj g1,rfl⟩))
def ape(hK:lC P kt kD kV it){x:Operand}{fb j:Nat}{k:κ}{v:β}{m:List (κ×β)}{seen:List Nat}{Z:ae}(hx:env.op x=some (.box fb 0))(hi:Z.get fb=some (.mj (m.map fun p=>kD p.1) (m.map fun p=>vD p.2) (seen++[j])))(hj:m[j]?=some (k,v)):
  aq P ⟨dst,.entry x,ty,pos,ar,g⟩ env Z (.a_ [kD k,vD v]) Z:=
 .val fun O ρ a w ai hv=>by
  have bZ:=hv x (by simp[Op.operands]) _ hx;simp only[V]at bZ;obtain⟨r,rR,e1⟩:=bZ;obtain⟨r',pn,_,b,rP,hit⟩:=ai.own fb _ hi rfl;rw[rR]at pn;cases pn;obtain⟨es,h4,h5,h6⟩:=GC hK rP;obtain⟨e,g1,g2,g3,g4⟩:=h5.at_ j k v hj;have Dv:w.heap[r.b]?=some (.mapIter (some b) m.length (seen.toArray.push e.born) m.length):=by rw[hit,g2];simp
  have fD:(es.toList.map (·.born)).Nodup:=by rw[h5.Ri];exact Jv
  have eY:=run_entry_at (P:=P) w r.b b m.length seen.toArray es m.length e Dv h4 (by simpa using Array.mem_of_getElem? g1) fD;refine⟨.tuple #[e.key,e.val],?_,?_⟩
  ·simp only[execOp,e1];rw[Sem.run_bind,eY];rfl
  ·simp only[V,Vs];refine⟨_,rfl,_,_,rfl,?_,_,_,rfl,V.mono (Kept.refl _ _) (Ck ρ) _ _ g4,rfl⟩;rw[g3];exact hK.back (h6 k (dh.2 ⟨(k,v),dj hj,rfl⟩))
end
structure z7{ι:Type}(P:Program)(f:FuncId)(args:List D)(A:ι->Prop)(r:ι->D):Prop where
 out:∀w O ρ vals,(∀b,O b->b<w.heap.size)->Gl w O->Vs w O ρ args vals->Calls P f vals.toArray w (fun e w'=>∃i v,A i/\e=.returned v/\V w' O ρ (r i) v/\gm w w')
def ap_{ι:Type}(ts:List Nat)(A:ι->Prop)(r:ι->D):Exit->Env->ae->Prop
 |.ret,env,_|.normal,env,_=>∃i ds,A i/\getAll env ts=some ds/\Sub (tL ds) (r i)
 |_,_,_=>False
def z7.mk'{ι:Type}{P:Program}{f:FuncId}{fn:Func}{c:Code}{args:List D}{A:ι->Prop}{r:ι->D}(ts:List Nat)(hf:P.funcs[f]?=some fn)(hb:fn.body=some c){N:Nat}(hN:fn.ntmps=N)(hn:Nat.ble args.length N=true)(hp:D.bw.dT args=true)(hr:∀i,(r i).bw=true)
  (rS:∀tmps w,(results fn tmps).run P w=.ok (E2 ts tmps) w)(h:U P ⟨N,[],false,none⟩ [c] (ap_ ts A r) (mA args 0) []):z7 P f args A r:=⟨fun w O ρ vals hO bY uW=>by
 have ce:∀b,¬cj dZ [] b:=fun b ⟨i,o,l,h1,_⟩=>by simp[ae.get]at h1
 have ai:cX w O dZ []:=⟨hO,fun _ _=>rfl,fun i o h1=>by simp[ae.get]at h1,fun i j o o' l l' h1=>by simp[ae.get]at h1⟩;have hv:Vs w (Ot O dZ []) dZ args vals:=Vs.mono (Kept.fp fun b hb=>hb.elim _root_.id (fun g=>(ce b g).elim)) (bN.refl _) _ _ (Vs.pure args vals hp uW);refine CK hf hb h.start (St.begin fn.ntmps hN (nA hn) ai (bY.mono (Kept.fp fun b hb=>hb.elim _root_.id (fun g=>(ce b g).elim))) hv [] none (fun _ _ e=>by cases e)) ?_ ?_
 ·intro e aY aj hq;cases e<;>first|exact .inl rfl|exact .inr rfl|exact hq.elim
 ·intro e aY aj tmps w' av hq _ aP wR;have:∃i ds,A i/\getAll aY ts=some ds/\Sub (tL ds) (r i):=by cases e<;>first|exact hq|exact hq.elim
  obtain⟨i,ds,hA,h1,h2⟩:=this;refine⟨_,rS _ _,i,_,hA,rfl,?_,aP.size,fun b hb=>aP.same b hb (ce b),aP.os⟩;have tn:=h2.out _ _ _ _ (Vs.res (G5 wR ts ds h1));exact V.pure _ _ (hr i) (V.mono (O':=O) (Kept.fp fun b hb=>Or.inl hb) (bN.refl _) _ _ tn)⟩
def Pq{ι:Type}{P:Program}{f:FuncId}{env:Env}{dst:Option Tmp}{ty:TypeId}{pos:String}{ar:Array Edge}{g:Option (Nat×Bool)}{xs:List Operand}{tys:Array TypeId}{ds:List D}{A:ι->Prop}{r:ι->D}
  (fA:∀(args:Array Value)(w:World),(callFunc f args).run P w=.ok (.enter f args) w)(hx:env.kM xs=some ds)(hf:z7 P f ds A r)(Z:ae):
  uj P ⟨dst,.call ⟨.value (.func f),xs.toArray,tys⟩,ty,pos,ar,g⟩ env Z A r (fun _=>Z):=by
 intro O ρ a w ai bY hv;have j7:=tW xs ds hx (fun x hx d' h=>hv x (by simp[Op.operands,Call.operands,hx]) d' h);have eY:(execOp a.eval ⟨dst,.call ⟨.value (.func f),xs.toArray,tys⟩,ty,pos,ar,g⟩).run P w=.ok (.enter f (xs.map a.eval).toArray) w:=by
  have h1:execOp a.eval ⟨dst,.call ⟨.value (.func f),xs.toArray,tys⟩,ty,pos,ar,g⟩=callFunc f (xs.map a.eval).toArray:=by
   simp[execOp,resolve,Deferred.ofValue,Act.eval,invoke,Bind.bind,Sem.bind,Pure.pure]
  rw[h1,fA]
 unfold Oper.wp;rw[eY];simp only[Oper.upon];refine Calls.mono (hf.out w (Ot O ρ Z) ρ _ ?_ bY j7) ?_
 ·rintro b (hb|⟨i,o,l,h1,h2,h3,h4⟩)
  ·exact ai.lt b hb
  ·obtain⟨l',h5,_,h6⟩:=ai.own i o h1 h2;rw[h3]at h5;cases h5;exact h4▸h6.lt h2
 ·rintro e w' ⟨i,v,hA,rfl,h1,h2⟩;exact⟨i,ρ,v,hA,rfl,Tr.pz h2 ai,h1⟩
end Go.T
namespace Go.T
open Go
variable[bX]
end Go.T
namespace Go.T
open Go
variable[bX]
variable{P:Program} {env:Env} {dst:Option Tmp} {ty:TypeId} {pos:String} {ar:Array Edge} {g:Option (Nat×Bool)}
def ZC{st xt e e':TypeId}{ti:TypeInfo}{z:Value}{sz bt:Nat}{x y:Operand}{fP:Bool}{rows new:List (List D)}(hu:P.underlying st=some (.slice e))(ia:P.underlying xt=some (.slice e'))(hs:∀w,(sizeOf e).run P w=.ok sz w)
  (jq:∀w,(typeInfo e).run P w=.ok ti w)(hz:∀w,(zeroValue e).run P w=.ok z w)(p7:z.cells.size=sz)(kA:ti.bytes=bt)(uL:Nat.beq bt 0=false)(hx:env.op x=some (.snap sz true rows))(hy:env.op y=some (.snap sz fP new))(aC:new≠[])
  (nK:(rows.length+new.length)*bt<=140737488355328)(Z:ae):
  aq P ⟨dst,.call ⟨.builtin .append,#[x,y],#[st,xt]⟩,ty,pos,ar,g⟩ env Z (.snap sz false (rows++new)) Z:=
 .step fun O ρ a w ai hv=>by
  have hb:(rows.length+new.length)*ti.bytes<=140737488355328:=by rw[kA];exact nK
  have gV:ti.bytes≠0:=by
   rw[kA];intro h;subst h;simp at uL
  have bZ:=hv x (by simp[Op.operands,Call.operands]) _ hx;have dR:=hv y (by simp[Op.operands,Call.operands]) _ hy;have eY:∀v w',(Builtin.append_ #[st,xt] ty #[a.eval x,a.eval y]).run P w=.ok v w'->(execOp a.eval ⟨dst,.call ⟨.builtin .append,#[x,y],#[st,xt]⟩,ty,pos,ar,g⟩).run P w=.ok (.value v) w':=by
   intro v w' h;simp[execOp,resolve,invoke,builtin,h]
  obtain⟨hlen,us,kC,k8,oA,jr,fQ⟩:=vO (P:=P) dR;obtain⟨Dy,vs,U8,j7,ajw,nP,A9⟩:=vO (P:=P) bZ;have DC:new.length≠0:=fun h=>aC (cc.1 h);have uM:rows.length+new.length<=aD:=by
   have:(rows.length+new.length)*1<=(rows.length+new.length)*ti.bytes:=jg _ zO;unfold aD;omega
  have DR:=bZ;simp only[V]at DR;obtain⟨ad,cap,e1,Dn,UR,_⟩:=DR;have cR:=UR trivial;rw[e1]at U8;obtain⟨nc,h1,h2⟩:=run_append_grow (T:=ty) (w:=w) hu hs ia zS jq hz (fun w' _=>hlen w') kC (vs:=vs) (fun w' hw'=>U8 w' hw') zO hb gV;rw[<-e1]at h2;have bA:∀b,Ot O ρ Z b->b<w.heap.size:=by
   rintro b (hb|⟨i,o,l,h1,h2,h3,h4⟩)
   ·exact ai.lt b hb
   ·obtain⟨l',h5,_,h6⟩:=ai.own i o h1 h2;rw[h3]at h5;cases h5;exact h4▸h6.lt h2
  have bM:(rows++new).length=rows.length+new.length:=by rw[bl]
  have uK:(vs++us).toArray=vs.toArray++us.toArray:=by simp
  have aP:Tr O w ρ Z {w with drawn:=w.drawn+1,heap:=w.heap.push (.cells (vs.toArray++us.toArray++Builtin.zeroCells z.cells (nc-(rows.length+new.length))) e (0,0))} ρ Z:=
   Tr.pz ⟨by simp,fun b hb=>by simp[pS,Nat.ne_of_lt hb],rfl,rfl,.inl ⟨rfl,vY _⟩⟩ ai
  refine⟨_,_,ρ,.inl (eY _ _ h2),aP,?_⟩;have hg:=ig.grown (ρ:=ρ) (b:=w.heap.size) (nc:=nc) (sz:=sz) (T:=e) (ds:=rows++new) (vs:=vs++us) (zs:=Builtin.zeroCells z.cells (nc-(rows.length+new.length))) (w':={w with drawn:=w.drawn+1,heap:=w.heap.push (.cells (vs.toArray++us.toArray++Builtin.zeroCells z.cells (nc-(rows.length+new.length))) e (0,0))}) (by rw[uK];simp) (by rw[bl,bM,nP,jr,dO]) (by rw[FC,p7,bM]) (by rw[bM];exact h1) (by rw[bM];exact uM)
   (fun r hr=>(cM.1 hr).elim (A9 r) (fQ r)) (by rw[qX];exact Vs.append j7 k8) (fun v js=>(cM.1 js).elim (ajw v) (oA v)) aP.kept
  obtain⟨c,T,q1,q2,q3,q4⟩:=hg;simp only[V];exact⟨_,_,by rw[bM],⟨by rw[bM];exact h1,by rw[bM];exact uM⟩,by simp,fun _=>⟨w.heap.size,0,rfl,⟨by simp,fun ho=>Nat.lt_irrefl _ (bA _ ho)⟩,q4⟩⟩
def Zz{st xt e e':TypeId}{sz:Nat}{x y:Operand}{fP L0:Bool}{rows:List (List D)}(hu:P.underlying st=some (.slice e))(ia:P.underlying xt=some (.slice e'))(hs:∀w,(sizeOf e).run P w=.ok sz w)(hx:env.op x=some (.snap sz fP rows))(hy:env.op y=some (.snap sz L0 []))(Z:ae):
  aq P ⟨dst,.call ⟨.builtin .append,#[x,y],#[st,xt]⟩,ty,pos,ar,g⟩ env Z (.snap sz fP rows) Z:=
 .val fun O ρ a w ai hv=>by
  have bZ:=hv x (by simp[Op.operands,Call.operands]) _ hx;have dR:=hv y (by simp[Op.operands,Call.operands]) _ hy;obtain⟨hlen,us,kC,k8,oA,jr,fQ⟩:=vO (P:=P) dR;have yN:us=[]:=by have:=jr;simp at this;exact this
  subst yN;have DR:=bZ;simp only[V]at DR;obtain⟨ad,cap,e1,Dn,UR,_⟩:=DR;have h1:=kC w rfl;refine⟨_,?_,bZ⟩;have:(Builtin.append_ #[st,xt] ty #[a.eval x,a.eval y]).run P w=.ok (a.eval x) w:=by
   rw[e1];cases ad with
   |none=>simp[Builtin.append_,bW hu,hs,bW ia,hlen w,Dn]at h1|-;simp[h1]
   |some ad=>simp[Builtin.append_,bW hu,hs,bW ia,hlen w,Dn]at h1|-;simp[h1,storeCells]
  simp[execOp,resolve,invoke,builtin,this]
end Go.T
namespace Go.T
open Go Go.Proofs Go.Proofs.Tryz
def adP:Fc prog 323 [bk []] (bk []):=by
 refine ay func323 ntmps323 results323 ?_;refine U.seq<|rg<|.ag rfl rfl<|.nil<|U.seq (U.seq (U.vK ?_));refine Tx.q rfl trivial (aX rfl _)<|Tx.n rfl trivial (ZG underlying244 rfl rfl _) (fun nb cF=>?_);dsimp only;refine Tx.nil<|U.cond rfl (fun h1=>?_) (fun h1=>?_)
 ·refine U.seq<|rg<|.ag rfl rfl<|.nil<|U.ret (?_);exact dt rfl (by exact Sub.nil _ false)
 ·refine U.skip<|U.seq<|rg<|.P rfl (t_ underlying244 sizeOf184)<|.mv rfl rfl<|.P rfl (Zz underlying244 underlying244 sizeOf184 rfl rfl)<|.ag rfl rfl<|.nil<|U.ret (?_);exact dt rfl (by exact Sub.sF _ _ _)
structure amT where
 u:Unit
def amS:Fc prog 281 [bk [],bk []] (bk []):=by
 refine ay func281 ntmps281 results281 ?_;refine go []<|oP (ah call323 rfl adP)<|U.loop (ι:=amT) (fun sx=>[(5,bk []),(6,.raw (.int .u64 ((0:Nat):Int))),(12,.i 0),(13,.i 0),(1,bk [])]) (fun sx=>[]) (fun sx=>0) ⟨()⟩ ?_ ?_
 ·exact Le.mk rfl (.n 5 rfl rfl .nil) .nil
 ·rintro⟨u⟩;try dsimp only
  skip
  ·exact go []<|aH zS<|go []<|oP (ah call284 rfl (sT []))<|af rfl (Sub.refl _)
def amV(x:List Nat)(wZ:x.length<=20000)(jf:aZ x):Fc prog 281 [bk x,bk []] (bk (bu (gw x [] 0))):=by
 by_cases h:x.length≠0
 ·exact Io x [] h wZ zS jf (fun _ h=>by simp at h)
 ·obtain rfl:x=[]:=cc.1 zO;exact amS
def ab8(n1:Bool)(x:List Nat)(k1:py n1 x)(hx:x.length<=9000):Fc prog 237 [.agg (pQ n1 x),.agg (pQ true [])] (.agg (pQ (iR n1 x true []).1 (iR n1 x true []).2)):=by
 refine Fc.jM func237 rfl ntmps237 rfl rfl rfl ?_;refine go [99999]<|br (fun h1=>?_) (fun h1=>?_)
 ·refine oP (ah call280 rfl (Pg x [] zO zS k1.ok (fun _ h=>by simp at h)))<|ord<|U.ret (?_);exact Rd.cA results237 isAgg246 sizeOf246 rfl rfl rfl (Sub.agg (.cons (Sub.bool (by unfold iR;(rw[aV zA];done))) (.cons (Sub.snap (by unfold iR;(rw[aV zA];done))) .nil)))
 ·refine oP (ah call240 rfl (Am x [] zO zS))<|aH (by simpa using F8 x)<|oP (ah call281 rfl (amV x zO k1.ok))<|ord<|U.ret (?_);exact Rd.cA results237 isAgg246 sizeOf246 rfl rfl rfl (Sub.agg (.cons (Sub.bool (by unfold iR;(rw[aF (by simpa using ‹(n1==true)=false›),aF (F8 x)];done))) (.cons (Sub.snap (by unfold iR;(rw[aF (by simpa using ‹(n1==true)=false›),aF (F8 x)];done))) .nil)))
def arq(s t:aa)(hs:s.length<=4000)(ht:t.length<=4000)(hv:val t=0):Fc prog 308 [.str s,.str t] (.str (ofInt (val s-val t))):=by
 refine ay func308 ntmps308 results308 ?_;have qI:=ma s;have bY:=rL (digits s).1;have h1:=oJ s;have h3:=ab7 h1;have e0:(val t).natAbs=0:=by omega
 have e1:decide (val t<0)=false:=by simp;omega
 have VD:=zC t zO;rw[e0,e1,oF]at VD;exact go []<|oP (ah call238 rfl VD)<|oP (ah call238 rfl (vJ s zO))<|oP (ah call237 rfl (ab8 (digits s).2 (gd (digits s).1) h1 zO))<|oP (ah call239 rfl (Cr _ _ h3.1 zO))<|ord<|af rfl (Sub.str (by rw[Fp _ h3.1,show val s-val t=val s by omega,<-nV s,<-h3.2.1];rfl))
def art(s t:aa)(hs:s.length<=4000)(ht:t.length<=4000)(hv:val t≠0):Fc prog 308 [.str s,.str t] (.str (ofInt (val s-val t))):=by
 refine ay func308 ntmps308 results308 ?_;have qI:=ma s;have bY:=rL (digits s).1;have UX:=ma t;have U':=rL (digits t).1;have h1:=oJ s;have h2:=anx hv;have h3:=QS h1 h2;have h4:=QR (digits s).2 (!(digits t).2) (gd (digits s).1) (gd (digits t).1);have h5:=QT h1 h2;exact go []<|oP (ah call238 rfl (vJ t zO))<|oP (ah call238 rfl (vJ s zO))<|oP (ah call237 rfl (QU (digits s).2 (gd (digits s).1) (!(digits t).2) (gd (digits t).1) h1 h2 zO zO))<|oP (ah call239 rfl (Cr _ _ h3 zO))<|ord<|af rfl (Sub.str (by rw[Fp _ h3];have h6:=anz t;rw[h6,nV s]at h5;rw[show val s-val t=val s+-val t by omega,<-h5];rfl))
def aru(s t:aa)(hs:s.length<=4000)(ht:t.length<=4000):Fc prog 308 [.str s,.str t] (.str (ofInt (val s-val t))):=by
 by_cases h:val t=0
 ·exact arq s t hs ht h
 ·exact art s t hs ht h
def I0(f:aO)(hs:f.den.length<=4000):Fc prog 222 [.agg (cK f)] (.a_ [.str (bQ f).1,.str (bQ f).2]):=by
 refine gq func222 ntmps222 results222 ?_;refine go []<|oP (ah call186 rfl (CN f.den [] hs zS))<|br (fun h1=>?_) (fun h1=>?_)
 ·exact cw rfl rfl (Sub.str (by unfold bQ;rw[aV h1])) (Sub.str (by unfold bQ;rw[aV h1]))
 ·exact ord<|cw rfl rfl (Sub.str (by unfold bQ;rw[aF (by rw[h1];simp)])) (Sub.str (by unfold bQ;rw[aF (by rw[h1];simp)]))
def ap3(n d:aa)(hn:n.length<=3000)(hd:d.length<=3000)(h0:val d≠0):Fc prog 271 [.str n,.str d] (.a_ [.str (ofInt (iZ (val n) (val d)).1),.str (ofInt (iZ (val n) (val d)).2)]):=by
 refine gq func271 ntmps271 results271 ?_;have hnn:=Yq n;have fD:=Yq d;have nM:=L4 (val n) h0;have qJ:=ahO (val (ofInt (-val n))) h0;refine go []<|oP (ah call186 rfl (CN d [] zO zS))<|br (fun h1=>?_) (fun h1=>?_)
 ·exact oP (ah call311 rfl (Yn _ zO))<|oP (ah call311 rfl (Yn _ zO))<|oP (ah call312 rfl (T6 _ _ zO zO))<|oP (ah call313 rfl (Gj _ _ zO zO (by exact T5 _ h0)))<|oP (ah call313 rfl (Gj _ _ zO zO (by exact T5 _ h0)))<|cw rfl rfl (Sub.str (by(have h9:=ZU (n:=n) (d:=d) h1;exact h9.1))) (Sub.str (by(have h9:=ZU (n:=n) (d:=d) h1;exact h9.2)))
 ·exact oP (ah call312 rfl (T6 _ _ zO zO))<|oP (ah call313 rfl (Gj _ _ zO zO (by exact G4 _ h0)))<|oP (ah call313 rfl (Gj _ _ zO zO (by exact G4 _ h0)))<|cw rfl rfl (Sub.str (by(have h9:=zE (n:=n) (d:=d) h1;exact h9.1))) (Sub.str (by(have h9:=zE (n:=n) (d:=d) h1;exact h9.2)))
def N4(n d:aa)(hn:n.length<=3000)(hd:d.length<=3000)(h0:val d≠0):Fc prog 224 [.str n,.str d] (.agg (cK (cS (val n) (val d)))):=by
 refine Fc.jM func224 rfl ntmps224 rfl rfl rfl ?_;refine go [99999]<|oP (ah call271 rfl (ap3 _ _ zA zA zA))<|br (fun h1=>?_) (fun h1=>?_)
 ·refine U.ret (?_);exact Rd.cA results224 isAgg35 sizeOf35 rfl rfl rfl (Sub.agg (.r (.cons (Sub.str (by exact Xw h1)) .nil)))
 ·refine U.ret (?_);exact Rd.cA results224 isAgg35 sizeOf35 rfl rfl rfl (Sub.agg (.r (.cons (Sub.str (by exact Xx h1)) .nil)))
def TW(f:aO)(hs:nn f):Fc prog 177 [.agg (cK f)] (.i (iI f)):=by
 refine ay func177 ntmps177 results177 ?_;have hp:=Qd (f:=f) (g:=f) ⟨hs.1,hs.2⟩ ⟨hs.1,hs.2⟩ zD;refine go []<|oP (ah call222 rfl (I0 f (dM hs.2 zD)))<|oP (ah call224 rfl (N4 _ _ zO zO (BZ f)))<|oP (oS (xs:=[f.num,f.den]) (ys:=[(cS (val (bQ f).1) (val (bQ f).2)).num,(cS (val (bQ f).1) (val (bQ f).2)).den]) underlying35 LW LW (.cons zK underlying33 isAgg33 rfl (.cons zK underlying33 isAgg33 rfl (.nil _))) rfl rfl rfl rfl rfl rfl)<|ord<|br (fun h1=>?_) (fun h1=>?_)
 ·exact af rfl (Sub.int (by unfold iI;rw[aF (RB h1)]))
 ·exact af rfl (Sub.int (by unfold iI;rw[aV (RA h1)]))
def ahy(a:aa)(hs:a.length<=3000):Fc prog 179 [.str a] (.agg (cK (cS (val a) (val [49])))):=by
 refine Fc.jM func179 rfl ntmps179 rfl rfl rfl ?_;refine go [99999]<|oP (ah call224 rfl (N4 a [49] hs zS zD))<|U.ret (?_);exact Rd.cA results179 isAgg35 sizeOf35 rfl rfl rfl (Sub.agg (.r (.r .nil)))
structure akw(s:aa)where
 pre:List UInt8
 rest:List UInt8
 hx:s=pre++rest
 hp:pre.all (fun c=>65<=c.toNat&&c.toNat<=90)=true
 h3:s.length=3
def Wd(s:aa):Fc prog 171 [.str s] (.b (gf s)):=by
 refine ay func171 ntmps171 results171 ?_;refine U.nB 0 rfl (fun hb=>?_);simp only[aD]at hb;refine go []<|br (fun h1=>?_) (fun h1=>?_)
 ·exact af rfl (Sub.bool (by grind[gf]))
 ·refine oP (Pp (u:=.string) underlying9 underlying152 underlying5 rfl)<|U.loop (ι:=akw s) (fun sx=>[(9,.snap 1 false (s.map fun c=>[.raw (.int .u8 (UInt8.toNat c:Int))])),(10,.i s.length),(11,.i sx.pre.length)]) (fun sx=>[]) (fun sx=>sx.rest.length) ⟨[],s,rfl,rfl,by simp at h1;omega⟩ ?_ ?_
  ·exact Le.mk rfl (.s rfl rfl (.cons rfl (Sub.int zS) rfl (.s rfl rfl .nil))) .nil
  ·rintro⟨pre,rest,hx,hp,h3⟩;dsimp only;rcases lc hx with⟨rfl,hl⟩|⟨x,rest,rfl,hl⟩
   ·exact go []<|aH (by simp at hl|-;omega)<|go []<|af rfl (Sub.bool (by grind[gf]))
   ·refine go []<|aM zQ<|ix zO (aK (fun c=>[D.raw (.int .u8 (UInt8.toNat c:Int))]) hx rfl)<|br (fun h2=>?_) (fun h2=>?_)
    ·exact af rfl (Sub.bool (by grind[gf]))
    ·exact sd (ao zO)<|nx ⟨pre++[x],rest,by simp[hx],by grind,h3⟩ zS (Le.mk rfl (.n 2 rfl rfl (.cons rfl (Sub.int zS) rfl .nil)) .nil)
def vS(f:aO)(hs:f.num.length<=60):Fc prog 267 [.agg (cK f)] (.i (sg f)):=by
 refine ay func267 ntmps267 results267 ?_;exact go []<|oP (ah call186 rfl (CN f.num [] zO zS))<|af rfl (Sub.refl _)
def aoV(i:aS)(hs:sB i):Fc prog 218 [.agg (iS i)] (.i (I3 i)):=by
 refine ay func218 ntmps218 results218 ?_;refine go []<|oP (ah call267 rfl (vS i.gp hs.1.1))<|gP (fun hg=>ah call267 rfl (vS i.gn hs.2.1.1))<|gP (fun hg=>ah call267 rfl (vS i.fY hs.2.2.1))<|br (fun h1=>?_) (fun h1=>?_)
 ·exact af rfl (Sub.int (by exact jy h1))
 ·exact af rfl (Sub.int (by exact dF h1 rfl))
structure aj3(l:List Int)(n:Int)where
 pre:List Int
 rest:List Int
 hx:l=pre++rest
 hp:pre.any (fun m=>decide (n=m))=false
def aj2(l:List Int)(n:Int):Fc prog 304 [lZ l,.i n] (.i (fw (fun m=>decide (n=m)) l)):=by
 refine ay func304 ntmps304 results304 ?_;refine U.eh 0 rfl (fun hb=>?_);simp only[bB,aD]at hb;refine go []<|U.loop (ι:=aj3 l n) (fun sx=>[(0,lZ l),(1,.i n),(6,lZ l),(7,.i l.length),(8,.i sx.pre.length)]) (fun sx=>[]) (fun sx=>sx.rest.length) ⟨[],l,rfl,rfl⟩ ?_ ?_
 ·exact Le.mk rfl (.n 3 rfl rfl (.cons rfl (Sub.int zS) rfl (.s rfl rfl .nil))) .nil
 ·rintro⟨pre,rest,hx,hp⟩;dsimp only;rcases lc hx with⟨rfl,hl⟩|⟨x,rest,rfl,hl⟩
  ·exact go []<|aH (by simp at hl|-;omega)<|go []<|af rfl (Sub.int (by exact uD hx hp))
  ·refine go []<|aM zQ<|ix zO (aK (fun n=>[D.i n]) hx rfl)<|br (fun h1=>?_) (fun h1=>?_)
   ·exact af rfl (Sub.int (by exact uE hx hp h1))
   ·exact sd (ao zO)<|nx ⟨pre++[x],rest,by simp[hx],jX hp h1⟩ zS (Le.mk rfl (.n 4 rfl rfl (.cons rfl (Sub.int zS) rfl .nil)) .nil)
def aiV(l:List Int)(n:Int):Fc prog 268 [lZ l,.i n] (.b (l.any (fun m=>decide (n=m)))):=by
 refine ay func268 ntmps268 results268 ?_;exact go []<|oP (ah call304 rfl (aj2 _ _))<|af rfl (Sub.bool (by exact s0 _ l))
def acX(i:aS)(hs:sB i):Fc prog 219 [.agg (iS i)] (.i (FY i)):=by
 refine ay func219 ntmps219 results219 ?_;refine go [2] ?_;refine U.bc (Le.fx 1 0 rfl rfl rfl rfl) ?_;refine U.bc (Le.fx 3 1 rfl rfl rfl rfl) ?_;refine go []<|oP (ah call267 rfl (vS i.gp hs.1.1))<|gP (fun hg=>ah call267 rfl (vS i.gn hs.2.1.1))<|gP (fun hg=>apC (rows:=[[D.i 1],[D.i 2],[D.i 3],[D.i 4],[D.i 6],[D.i 12]]) underlying274 sizeOf3 rfl zD zD rfl rfl rfl zD)<|gP (fun hg=>ah call268 rfl (aiV [1,2,3,4,6,12] i.r_).sub)<|ord<|br (fun h1=>?_) (fun h1=>?_)
 ·exact af rfl (Sub.int (by exact jy h1))
 ·refine gP (fun hg=>ah call267 rfl (vS i.fY hs.2.2.1))<|br (fun h2=>?_) (fun h2=>?_)
  ·exact af rfl (Sub.int (by exact dF h1 (jy h2)))
  ·exact go [2]<|af rfl (Sub.int (by exact dF h1 (dF h2 rfl)))
def ahD(i:aS)(hs:sB i):Fc prog 220 [.agg (iS i)] (.i (G0 i)):=by
 refine ay func220 ntmps220 results220 ?_;refine go []<|oP (ah call171 rfl (Wd _))<|br (fun h1=>?_) (fun h1=>?_)
 ·exact af rfl (Sub.int (by exact jy h1))
 ·refine oP (ah call267 rfl (vS i.fY hs.2.2.1))<|br (fun h2=>?_) (fun h2=>?_)
  ·exact af rfl (Sub.int (by exact dF h1 (jy h2)))
  ·refine oP (ah call267 rfl (vS i.gp hs.1.1))<|gP (fun hg=>ah call267 rfl (vS i.gn hs.2.1.1))<|br (fun h3=>?_) (fun h3=>?_)
   ·exact af rfl (Sub.int (by exact dF h1 (dF h2 (jy h3))))
   ·exact af rfl (Sub.int (by exact dF h1 (dF h2 (dF h3 rfl))))
def Sg(a:aa):Fc prog 221 [.str a] (.i (kq a)):=by
 refine ay func221 ntmps221 results221 ?_;refine U.nB 0 rfl (fun hb=>?_);simp only[aD]at hb;refine go []<|w8 (fun hg=>And.intro zD (ai7 (by simpa[jw]using hg)))<|br (fun h1=>?_) (fun h1=>?_)
 ·exact sd (ao zO)<|af rfl (Sub.int (by unfold kq;rw[aV h1]))
 ·exact af rfl (Sub.int (by unfold kq;rw[aF (by rw[h1];simp)]))
def anw(f:aO)(hs:nn f):Fc prog 174 [.agg (cK f)] (.i (ke f)):=by
 refine ay func174 ntmps174 results174 ?_;refine go []<|oP (ah call177 rfl (TW _ zA))<|br (fun h1=>?_) (fun h1=>?_)
 ·exact af rfl (Sub.int (by exact jy h1))
 ·refine oP (ah call221 rfl (Sg _))<|oP (ah call221 rfl (Sg _))<|ord<|br (fun h2=>?_) (fun h2=>?_)
  ·exact af rfl (Sub.int (by exact dF h1 (jy h2)))
  ·exact af rfl (Sub.int (by exact dF h1 (dF h2 rfl)))
def akB(x:aS)(id:aa):Fc prog 167 [.agg (iS x),.bj [.str id]] (.b (decide (x.id=id))):=by
 refine ay func167 ntmps167 results167 ?_;exact go []<|af rfl (Sub.refl _)
structure aj1(l:List aS)(P:aS->Bool)where
 pre:List aS
 rest:List aS
 hx:l=pre++rest
 hp:pre.any P=false
def aj0(l:List aS)(f:FuncId)(bO:List D)(cR:D.bw.dT bO=true)(P:aS->Bool)(fA:∀(args:Array Value)(w:World),(callFunc f args).run prog w=.ok (.enter f args) w)(hP:∀x∈l,Fc prog f (.agg (iS x)::bO) (.b (P x))):Fc prog 166 [n_ l,.fn (.func f) [] bO] (.i (fw P l)):=by
 refine Fc.mk' [4] func166 rfl ntmps166 rfl (by simp[D.bw,D.bw.dT,cR]) rfl (fun t w=>results_tmp results166 t _ w) ?_;refine U.eh 0 rfl (fun hb=>?_);simp only[bB,aD]at hb;refine go []<|U.loop (ι:=aj1 l P) (fun sx=>[(0,n_ l),(1,.fn (.func f) [] bO),(6,n_ l),(7,.i l.length),(8,.i sx.pre.length)]) (fun sx=>[]) (fun sx=>sx.rest.length) ⟨[],l,rfl,rfl⟩ ?_ ?_
 ·exact Le.mk rfl (.s rfl rfl (.cons rfl (Sub.refl _) (rh cR) (.s rfl rfl (.cons rfl (Sub.int zS) rfl (.s rfl rfl .nil))))) .nil
 ·rintro⟨pre,rest,hx,hp⟩;dsimp only;rcases lc hx with⟨rfl,hl⟩|⟨x,rest,rfl,hl⟩
  ·exact go []<|aH (by simp at hl|-;omega)<|go []<|af rfl (Sub.int (by exact uD hx hp))
  ·refine go []<|aM zQ<|ix zO (aK iS hx rfl)<|oP (eO fA rfl rfl (hP x (by rw[hx];simp)))<|br (fun h1=>?_) (fun h1=>?_)
   ·exact af rfl (Sub.int (by exact uE hx hp h1))
   ·exact sd (ao zO)<|nx ⟨pre++[x],rest,by simp[hx],jX hp h1⟩ zS (Le.mk rfl (.s rfl rfl (.cons rfl (Sub.refl _) (rh cR) (.n 2 rfl rfl (.cons rfl (Sub.int zS) rfl .nil)))) .nil)
def TF(l:List aS)(id:aa):Fc prog 111 [n_ l,.str id] (.a_ [.i (max (fw (fun x=>decide (x.id=id)) l) 0),.b (l.any (fun x=>decide (x.id=id)))]):=by
 refine gq func111 ntmps111 results111 ?_;refine go [1] ?_;refine U.bc (Le.fx 3 0 rfl rfl rfl rfl) ?_;exact go []<|oP (ah call166 rfl (aj0 l _ [.bj [.str id]] rfl (fun x=>decide (x.id=id)) call167 (fun x _=>akB x id)))<|cw rfl rfl (Sub.refl _) (Sub.bool (by exact s0 _ l))
end Go.T
namespace Go.T
open Go
def Ol{α:Type}{a b c x:α}{pre rest:List α}(hx:[a,b,c]=pre++x::rest):x=a\/x=b\/x=c:=by
 have:x∈[a,b,c]:=by rw[hx];simp
 simpa using this
def C1(k:Int):Bool:=decide (k=2)||decide (k=5)
def xB(k:Int)(i:aS):Int:=if k=2 then FY i else if k=5 then G0 i else I3 i
def Oi(i:aS):Bool:=decide (i.tH≠0)&&(!zV i.tH||decide (i.tH<=i.yU))||decide (i.tH=0)&&C1 i.kind
def jB(d:Int):List aO->Int
 |[]=>d
 |f::r=>if decide (ke f≠0)=true then ke f else jB d r
def jL(i:aS):Int:=
 if(!isName i.id)=true then 23 else if(decide (i.kind<1)||decide (5<i.kind))=true then 7 else if(!gf i.cur)=true then 12
 else if(decide (i.places<0)||decide (12<i.places))=true then 2 else if(!zV i.yU)=true then 13 else if Oi i=true then 13 else jB (xB i.kind i) [i.gp,i.gn,i.fY]
def anG{d:Int}{l rest:List aO}{x:aO}(h:jB d l=jB d (x::rest))(k:decide (ke x≠0)=true):ke x=jB d l:=by rw[h,jB,aV k]
def anF{d:Int}{l rest:List aO}{x:aO}(h:jB d l=jB d (x::rest))(k:decide (ke x≠0)=false):jB d l=jB d rest:=by rw[h,jB,aF (by rw[k];simp)]
def pO(i:aS):List aa:=if i.kind=5 then[i.cur,i.other]else[i.cur]
def DZ(i:aS)(t:List bL):Int:=if(pO i).any (fun c=>!(nI c t).2)=true then 12 else 0
def oD(pre:List aS)(x:aS)(t:List bL):Int:=if decide (jL x≠0)=true then jL x else if pre.any (fun y=>decide (y.id=x.id))=true then 5 else DZ x t
def qU(t:List bL)(pre:List aS):List aS->Int
 |[]=>0
 |x::r=>if decide (oD pre x t≠0)=true then oD pre x t else qU t (pre++[x]) r
def lH(l:List aS)(t:List bL):Int:=if decide (mB t≠0)=true then 1 else if decide (64<(l.length:Int))=true then 4 else qU t [] l
def VZ{pre:List aS}{x:aS}{t:List bL}(h:decide (jL x≠0)=true):oD pre x t=jL x:=by rw[oD,aV h]
def V0{pre:List aS}{x:aS}{t:List bL}(h:decide (jL x≠0)=false)(h2:pre.any (fun y=>decide (y.id=x.id))=true):oD pre x t=5:=by rw[oD,aF (by rw[h];simp),aV h2]
def HR{pre:List aS}{x:aS}{t:List bL}(h:decide (jL x≠0)=false)(h2:pre.any (fun y=>decide (y.id=x.id))=false):oD pre x t=DZ x t:=by rw[oD,aF (by rw[h];simp),aF (by rw[h2];simp)]
def Bi{l pre rest:List aS}{x:aS}{t:List bL}{n:Int}(h:lH l t=qU t pre (x::rest))(he:oD pre x t=n)(hn:decide (n≠0)=true):n=lH l t:=by rw[h,qU,he,aV hn]
def Wa{l pre rest:List aS}{x:aS}{t:List bL}{n:Int}(h:lH l t=qU t pre (x::rest))(he:oD pre x t=n)(hn:decide (n≠0)=false):lH l t=qU t (pre++[x]) rest:=by
 rw[h,qU,he,aF (by rw[hn];simp)]
def V'{l:List aS}{t:List bL}(h1:decide (mB t≠0)=false)(h2:decide (64<(l.length:Int))=false):lH l t=qU t [] l:=by rw[lH,aF (by rw[h1];simp),aF (by rw[h2];simp)]
open Go.Proofs Go.Proofs.Tryz
def aql:Fc prog 173 [] (.agg [.b false,.raw .nilFunc,.b false,.fn (.func 218) [] [],.b true,.fn (.func 219) [] [],.b false,.fn (.func 218) [] [],.b false,.fn (.func 218) [] [],.b true,.fn (.func 220) [] []]):=by
 refine Fc.jM func173 rfl ntmps173 rfl rfl rfl ?_;refine go [99999]<|U.ret (?_);exact Rd.cA results173 isAgg199 sizeOf199 rfl rfl rfl (Sub.agg (.r (.cons (Sub.refl _) (.r (.cons (Sub.refl _) (.r (.cons (Sub.refl _) (.r (.cons (Sub.refl _) (.r (.cons (Sub.refl _) (.r (.r .nil)))))))))))))
def wJ(k:Int):FuncId:=if k=2 then 219 else if k=5 then 220 else 218
def aqm{k:Int}(h1:1<=k)(h5:k<=5):(List.drop (k.toNat*2) [D.b false,D.raw .nilFunc,D.b false,D.fn (.func 218) [] [],D.b true,D.fn (.func 219) [] [],D.b false,D.fn (.func 218) [] [],D.b false,D.fn (.func 218) [] [],D.b true,D.fn (.func 220) [] []]).take 2=[.b (C1 k),.fn (.func (wJ k)) [] []]:=by
 have:k=1\/k=2\/k=3\/k=4\/k=5:=by omega
 rcases this with rfl|rfl|rfl|rfl|rfl<;>rfl
def aqk(k:Int):∀(args:Array Value)(w:World),(callFunc (wJ k) args).run prog w=.ok (.enter (wJ k) args) w:=by
 unfold wJ;split
 ·exact call219
 ·split
  ·exact call220
  ·exact call218
def aqj(k:Int)(i:aS)(hs:sB i):Fc prog (wJ k) [.agg (iS i)] (.i (xB k i)):=by
 unfold wJ xB;split
 ·exact acX i hs
 ·split
  ·exact ahD i hs
  ·exact aoV i hs
structure akg(i:aS)where
 pre:List aO
 rest:List aO
 hx:[i.gp,i.gn,i.fY]=pre++rest
 hp:jB (xB i.kind i) [i.gp,i.gn,i.fY]=jB (xB i.kind i) rest
def akf(i:aS)(hs:sB i):Fc prog 118 [.agg (iS i)] (.i (jL i)):=by
 refine ay func118 ntmps118 results118 ?_;refine go [11]<|oP (ah call86 rfl (BF _))<|br (fun h1=>?_) (fun h1=>?_)
 ·exact af rfl (Sub.int (by unfold jL;exact jy h1))
 ·skip
  skip;refine br (fun h2=>?_) (fun h2=>?_)
  ·exact af rfl (Sub.int (by unfold jL;exact dF h1 (jy h2)))
  ·have di:=h2;try simp only[bs]at di
   refine oP (ah call171 rfl (Wd _))<|br (fun h3=>?_) (fun h3=>?_)
   ·exact af rfl (Sub.int (by unfold jL;exact dF h1 (dF h2 (jy h3))))
   ·refine br (fun h4=>?_) (fun h4=>?_)
    ·exact af rfl (Sub.int (by unfold jL;exact dF h1 (dF h2 (dF h3 (jy h4)))))
    ·refine oP (ah call172 rfl (aa_ _))<|br (fun h5=>?_) (fun h5=>?_)
     ·exact af rfl (Sub.int (by unfold jL;exact dF h1 (dF h2 (dF h3 (dF h4 (jy h5))))))
     ·refine U.bc (Le.fx 1 0 rfl rfl rfl rfl) ?_;refine go []<|oP (ah call173 rfl aql)<|oP (ZI (r:=[.b (C1 i.kind),.fn (.func (wJ i.kind)) [] []]) underlying199 isAgg198 sizeOf198 rfl rfl zO zO zQ (aqm zO zO))<|ord<|gP (fun hg=>ah call172 rfl (aa_ _))<|br (fun h6=>?_) (fun h6=>?_)
      ·exact af rfl (Sub.int (by unfold jL;exact dF h1 (dF h2 (dF h3 (dF h4 (dF h5 (jy h6)))))))
      ·refine oP (bK (n:=3) (rows:=[cK i.gp,cK i.gn,cK i.fY]) underlying116 sizeOf35 rfl rfl rfl zeroValue35 rfl rfl rfl rfl rfl rfl rfl)<|U.loop (ι:=akg i) (fun sx=>[(1,.bj (iS i)),(3,.box 1 0),(75,.snap 2 true ([i.gp,i.gn,i.fY].map cK)),(76,.i 3),(77,.i sx.pre.length)]) (fun sx=>[(1,.cells [.b (C1 i.kind),.fn (.func (wJ i.kind)) [] []])]) (fun sx=>sx.rest.length) ⟨[],_,rfl,rfl⟩ ?_ ?_
       ·exact Le.mk rfl (.n 5 rfl rfl .nil) (.cons rfl rfl .nil)
       ·rintro⟨pre,rest,hx,hp⟩;dsimp only;have hl:=aT List.length hx;simp only[bl,bD,hG]at hl;rcases rest with _|⟨x,rest⟩
        ·exact go [11]<|aH (by simp at hl|-;omega)<|go [11]<|oP (eO (aqk i.kind) rfl rfl (aqj i.kind i hs))<|af rfl (Sub.int (by unfold jL;exact dF h1 (dF h2 (dF h3 (dF h4 (dF h5 (dF h6 hp.symm)))))))
        ·simp only[bD]at hl;have k9:=Ol hx;refine go [11]<|aM zQ<|ix zO (aK cK hx rfl)<|oP (ah call174 rfl (anw x (by rcases k9 with rfl|rfl|rfl;exact hs.1;exact hs.2.1;exact hs.2.2)))<|br (fun h7=>?_) (fun h7=>?_)
         ·exact af rfl (Sub.int (by unfold jL;exact dF h1 (dF h2 (dF h3 (dF h4 (dF h5 (dF h6 (anG hp h7))))))))
         ·exact sd (ao zO)<|nx ⟨pre++[x],rest,by simp[hx],anF hp h7⟩ zS (Le.mk rfl (.n 4 rfl rfl (.cons rfl (Sub.int zS) rfl .nil)) (.cons rfl rfl .nil))
structure WA(i:aS)(t:List bL)where
 pre:List aa
 rest:List aa
 hx:pO i=pre++rest
 hp:pre.any (fun c=>!(nI c t).2)=false
def ak3(i:aS)(t:List bL):Fc prog 119 [.agg (iS i),kh t] (.i (DZ i t)):=by
 refine ay func119 ntmps119 results119 ?_;have wO:(pO i).length<=2:=by unfold pO;split<;>simp
 refine go []<|oP (bK (n:=1) (rows:=[[D.str i.cur]]) underlying48 sizeOf9 rfl rfl rfl zeroValue9 rfl rfl rfl rfl rfl rfl rfl)<|br (fun h1=>?_) (fun h1=>?_)
 ·refine oP (bK (n:=1) (rows:=[[D.str i.other]]) underlying48 sizeOf9 rfl rfl rfl zeroValue9 rfl rfl rfl rfl rfl rfl rfl)<|oP (ZC underlying48 underlying48 sizeOf9 typeInfo9 zeroValue9 rfl (bt:=16) rfl rfl rfl rfl zS zS)<|U.loop (ι:=WA i t) (fun sx=>[(1,kh t),(21,.snap 1 false ((pO i).map fun s=>[D.str s])),(22,.i (pO i).length),(23,.i sx.pre.length)]) (fun sx=>[]) (fun sx=>sx.rest.length) ⟨[],_,rfl,rfl⟩ ?_ ?_
  ·exact Le.mk rfl (.s rfl rfl (.cons rfl (Sub.snap (by(unfold pO;(rw[aV (by simpa using h1)];rfl)))) rfl (.cons rfl (Sub.int (by(unfold pO;(rw[aV (by simpa using h1)];rfl)))) rfl (.s rfl rfl .nil)))) .nil
  ·rintro⟨pre,rest,hx,hp⟩;dsimp only;rcases lc hx with⟨rfl,hl⟩|⟨x,rest,rfl,hl⟩
   ·exact go []<|aH (by simp at hl|-;omega)<|go []<|af rfl (Sub.int (by exact dF (oX hx hp) rfl))
   ·refine go []<|aM zQ<|ix zO (aK (fun s=>[D.str s]) hx rfl)<|oP (ah call170 rfl (LM t x))<|br (fun h2=>?_) (fun h2=>?_)
    ·exact af rfl (Sub.int (by exact jy (oh hx zA)))
    ·exact sd (ao zO)<|nx ⟨pre++[x],rest,by simp[hx],jX hp zA⟩ zS (Le.mk rfl (.s rfl rfl (.cons rfl (Sub.refl _) rfl (.s rfl rfl (.cons rfl (Sub.int zS) rfl .nil)))) .nil)
 ·refine U.loop (ι:=WA i t) (fun sx=>[(1,kh t),(21,.snap 1 false ((pO i).map fun s=>[D.str s])),(22,.i (pO i).length),(23,.i sx.pre.length)]) (fun sx=>[]) (fun sx=>sx.rest.length) ⟨[],_,rfl,rfl⟩ ?_ ?_
  ·exact Le.mk rfl (.s rfl rfl (.cons rfl (Sub.snap (by(unfold pO;(rw[aF (by simpa using h1)];rfl)))) rfl (.cons rfl (Sub.int (by(unfold pO;(rw[aF (by simpa using h1)];rfl)))) rfl (.s rfl rfl .nil)))) .nil
  ·rintro⟨pre,rest,hx,hp⟩;dsimp only;rcases lc hx with⟨rfl,hl⟩|⟨x,rest,rfl,hl⟩
   ·exact go []<|aH (by simp at hl|-;omega)<|go []<|af rfl (Sub.int (by exact dF (oX hx hp) rfl))
   ·refine go []<|aM zQ<|ix zO (aK (fun s=>[D.str s]) hx rfl)<|oP (ah call170 rfl (LM t x))<|br (fun h3=>?_) (fun h3=>?_)
    ·exact af rfl (Sub.int (by exact jy (oh hx zA)))
    ·exact sd (ao zO)<|nx ⟨pre++[x],rest,by simp[hx],jX hp zA⟩ zS (Le.mk rfl (.s rfl rfl (.cons rfl (Sub.refl _) rfl (.s rfl rfl (.cons rfl (Sub.int zS) rfl .nil)))) .nil)
structure ady(l:List aS)(t:List bL)where
 pre:List aS
 rest:List aS
 hx:l=pre++rest
 hp:lH l t=qU t pre rest
def adx(l:List aS)(t:List bL)(hs:∀x∈l,sB x):Fc prog 85 [n_ l,kh t] (.i (lH l t)):=by
 refine ay func85 ntmps85 results85 ?_;refine U.eh 0 rfl (fun hb=>?_);simp only[bB,aD]at hb;refine go [11]<|oP (ah call117 rfl (adD _))<|br (fun h1=>?_) (fun h1=>?_)
 ·exact af rfl (Sub.int (by exact jy h1))
 ·refine br (fun h2=>?_) (fun h2=>?_)
  ·exact af rfl (Sub.int (by exact dF h1 (jy (by simpa using h2))))
  ·refine U.loop (ι:=ady l t) (fun sx=>[(1,kh t),(0,n_ l),(17,n_ l),(18,.i l.length),(19,.i sx.pre.length)]) (fun sx=>[]) (fun sx=>sx.rest.length) ⟨[],l,rfl,V' h1 (by simpa using h2)⟩ ?_ ?_
   ·exact Le.mk rfl (.n 3 rfl rfl (.cons rfl (Sub.int zS) rfl (.s rfl rfl .nil))) .nil
   ·rintro⟨pre,rest,hx,hp⟩;dsimp only;rcases lc hx with⟨rfl,hl⟩|⟨x,rest,rfl,hl⟩
    ·exact go [11]<|aH (by simp at hl|-;omega)<|go [11]<|af rfl (Sub.int (by exact hp.symm))
    ·refine go [11]<|aM zQ<|ix zO (aK iS hx rfl)<|oP (ah call118 rfl (akf x (hs x (by rw[hx];simp))))<|br (fun h3=>?_) (fun h3=>?_)
     ·exact af rfl (Sub.int (by exact Bi hp (VZ h3) h3))
     ·refine U.bc (Le.fx 6 0 rfl rfl rfl rfl) ?_;refine go []<|oP (pC underlying23 sizeOf65 rfl (l:=0) (h:=pre.length) (r:=pre.map iS) (.inl ⟨rfl,rfl⟩) (.inr ⟨_,_,rfl,rfl⟩) zO (by simp[hx]) (by rw[hx];simp))<|oP (ah call111 rfl (TF pre x.id))<|ord<|br (fun h4=>?_) (fun h4=>?_)
      ·exact af rfl (Sub.int (by exact Bi hp (V0 h3 h4) rfl))
      ·refine oP (ah call119 rfl (ak3 x t))<|br (fun h5=>?_) (fun h5=>?_)
       ·exact af rfl (Sub.int (by exact Bi hp (HR h3 h4) h5))
       ·exact go [11]<|sd (ao zO)<|nx ⟨pre++[x],rest,by simp[hx],Wa hp (HR h3 h4) h5⟩ zS (Le.mk rfl (.n 4 rfl rfl (.cons rfl (Sub.int zS) rfl .nil)) .nil)
def Jl(s:Setup)(hs:∀x∈s.insts,sB x):Fc prog 41 [.agg (im s)] (.b (decide (lH s.insts s.o7=0))):=by
 refine ay func41 ntmps41 results41 ?_;exact go []<|oP (ah call85 rfl (adx s.insts s.o7 hs))<|af rfl (Sub.refl _)
end Go.T
namespace Go.T
open Go Go.Proofs Go.Shelf Go.RowKit
@[reducible] def Ah:aa:=[65,66,67,68,69,70,71,72,73,74,75,76,77,78,79,80,81,82,83,84,85,86,87,88,89,90]
def ade(c:UInt8):Ah.contains c=(decide (65<=c.toNat)&&decide (c.toNat<=90)):=by
 have h:∀n:Fin 256,Ah.contains (UInt8.ofNat n.1)=(decide (65<=(UInt8.ofNat n.1).toNat)&&decide ((UInt8.ofNat n.1).toNat<=90)):=by decide+kernel
 have:=h ⟨c.toNat,c.toNat_lt⟩;simpa using this
def xG(s:aa):aa:=Lib.trimS s Ah
def as6(s:aa):decide (xG s=[])=s.all (fun c=>decide (65<=c.toNat)&&decide (c.toNat<=90)):=by
 have hp:(Ah.contains ·)=fun c=>decide (65<=c.toNat)&&decide (c.toNat<=90):=funext ade;have key:xG s=[]↔s.all (fun c=>decide (65<=c.toNat)&&decide (c.toNat<=90))=true:=by
  unfold xG Lib.trimS Lib.trimLeftS Lib.trimRightS;rw[hp,Gu,Ad];constructor
  ·intro h;have:=SH _ s.reverse h;rwa[Ad]at this
  ·intro h;rw[(Gu _ s.reverse).2 (by rwa[Ad])];rfl
 by_cases h:xG s=[]
 ·rw[key.1 h];simp[h]
 ·have:s.all (fun c=>decide (65<=c.toNat)&&decide (c.toNat<=90))=false:=by
   cases e:s.all (fun c=>decide (65<=c.toNat)&&decide (c.toNat<=90))with
   |false=>rfl
   |true=>exact absurd (key.2 e) h
  rw[this];simp[h]
def as5(s:aa):(xG s).length<=s.length:=by
 unfold xG Lib.trimS Lib.trimLeftS Lib.trimRightS;refine dM (Gt _ _) ?_;rw[HZ];refine dM (Gt _ _) zS
def as7(s:aa):Fc Tryz.prog 180 [.str s,.str Ah] (.str (xG s)):=.rf fun w O ρ vals _ hv=>by
 obtain⟨rfl,hb,_⟩:=hv.Fj;refine(Any.strings_Trim_laid Tryz.WK LW ⟨s.toArray⟩ ⟨Ah.toArray⟩ w (by simp[ByteArray.size];unfold aD at hb;omega) zD (ascii_of_all zD)).mono ?_;rintro e w' ⟨rfl,hw⟩;refine⟨_,rfl,?_,gm.below hw⟩;have:=as5 s;simp only[V];exact⟨rfl,by omega⟩
end Go.T
namespace Go.T
open Go
def Hi(s p:aa):Bool:=decide ((p.length:Int)<=s.length)&&decide (s.take p.length=p)
def lB(s p:aa):aa:=if Hi s p=true then s.drop p.length else s
def akz(s:aa):(decide ((s.length:Int)=3)&&decide (xG s=[]))=gf s:=by
 rw[as6];unfold gf;by_cases h:s.length=3
 ·simp[h]
 ·have:¬((s.length:Int)=3):=by omega
  simp[h,this]
def j1{α:Type}[DecidableEq α](a b:List α):Bool:=decide (a=b)
def GA{α:Type}{a b:List α}[DecidableEq α](h:a.length≠b.length):false=j1 a b:=by
 unfold j1;rw[tR];intro e;exact h (aT List.length e)
def GB{α:Type}{a b p q:List α}{x y:α}{r t:List α}[DecidableEq α](h:a=p++x::r)(h2:b=q++y::t)(hl:q.length=p.length)(hn:x≠y):false=j1 a b:=by
 unfold j1;rw[tR];rintro e;rw[h,h2]at e;have:=List.append_inj e hl.symm;exact hn (List.cons.inj this.2).1
def Gz{α:Type}{a b p q:List α}[DecidableEq α](h:a=p++[])(h2:b=q++[])(hp:p=q):true=j1 a b:=by
 subst h;subst h2;subst hp;simp[j1]
open Go.Proofs Go.Proofs.Tryz
def aiW(s p:aa):Fc prog 314 [.str s,.str p] (.b (Hi s p)):=by
 refine ay func314 ntmps314 results314 ?_;refine U.nB 0 rfl (fun hb=>?_);simp only[aD]at hb;exact go []<|gP (fun hg=>oU underlying9 rfl (l:=0) (h:=p.length) (r:=s.take p.length) (.inl ⟨rfl,rfl⟩) (.inr ⟨_,_,rfl,rfl⟩) zO (by simp[jw]at hg;omega) zS)<|af rfl (Sub.refl _)
def as'(s p:aa):Fc prog 272 [.str s,.str p] (.str (lB s p)):=by
 refine ay func272 ntmps272 results272 ?_;refine go []<|oP (ah call314 rfl (aiW _ _))<|br (fun h1=>?_) (fun h1=>?_)
 ·exact oP (oU underlying9 rfl (l:=p.length) (h:=s.length) (r:=s.drop p.length) (.inr ⟨_,_,rfl,rfl⟩) (.inl ⟨rfl,rfl⟩) (by simp[Hi]at h1;omega) zO (by rw[gZ];simp))<|af rfl (Sub.str (by unfold lB;rw[aV h1]))
 ·exact af rfl (Sub.str (by unfold lB;rw[aF (by rw[h1];simp)]))
def ata(s p:aa):Fc prog 225 [.str s,.str p] (.str (lB s p)):=by
 refine ay func225 ntmps225 results225 ?_;exact go []<|oP (ah call272 rfl (as' _ _))<|af rfl (Sub.refl _)
def Tn(a:aa):Fc prog 178 [.str a] (.i (lB a [45]).length):=by
 refine ay func178 ntmps178 results178 ?_;exact go []<|oP (ah call225 rfl (ata _ _))<|af rfl (Sub.refl _)
def JL(a:aa):Fc prog 184 [.str a] (.agg (cK ⟨a,[]⟩)):=by
 refine Fc.jM func184 rfl ntmps184 rfl rfl rfl ?_;refine go [99999]<|U.ret (?_);exact Rd.cA results184 isAgg35 sizeOf35 rfl rfl rfl (Sub.agg (.r (.r .nil)))
def am9(s:aa):Fc prog 124 [.str s] (.i (if(!isName s)=true then 23 else 0)):=by
 refine ay func124 ntmps124 results124 ?_;refine go []<|oP (ah call86 rfl (BF _))<|br (fun h1=>?_) (fun h1=>?_)
 ·exact af rfl (Sub.int (by exact jy h1))
 ·exact af rfl (Sub.int (by exact dF h1 rfl))
def HS(s:aa):Fc prog 125 [.str s] (.b (gf s)):=by
 refine ay func125 ntmps125 results125 ?_;exact go []<|gP (fun hg=>ah call180 rfl (as7 _))<|af rfl (Sub.bool (by exact akz s))
def aqy(x p:dE):Fc prog 183 [.agg (j0 x),.bj (j0 p)] (.b (decide (x.fT=p.fT))):=by
 refine ay func183 ntmps183 results183 ?_;exact go []<|af rfl (Sub.refl _)
structure aj5(l:List dE)(P:dE->Bool)where
 pre:List dE
 rest:List dE
 hx:l=pre++rest
 hp:pre.any P=false
def aj4(l:List dE)(f:FuncId)(bO:List D)(cR:D.bw.dT bO=true)(P:dE->Bool)(fA:∀(args:Array Value)(w:World),(callFunc f args).run prog w=.ok (.enter f args) w)(hP:∀x∈l,Fc prog f (.agg (j0 x)::bO) (.b (P x))):Fc prog 236 [ru l,.fn (.func f) [] bO] (.i (fw P l)):=by
 refine Fc.mk' [4] func236 rfl ntmps236 rfl (by simp[D.bw,D.bw.dT,cR]) rfl (fun t w=>results_tmp results236 t _ w) ?_;refine U.eh 0 rfl (fun hb=>?_);simp only[bB,aD]at hb;refine go []<|U.loop (ι:=aj5 l P) (fun sx=>[(0,ru l),(1,.fn (.func f) [] bO),(6,ru l),(7,.i l.length),(8,.i sx.pre.length)]) (fun sx=>[]) (fun sx=>sx.rest.length) ⟨[],l,rfl,rfl⟩ ?_ ?_
 ·exact Le.mk rfl (.s rfl rfl (.cons rfl (Sub.refl _) (rh cR) (.s rfl rfl (.cons rfl (Sub.int zS) rfl (.s rfl rfl .nil))))) .nil
 ·rintro⟨pre,rest,hx,hp⟩;dsimp only;rcases lc hx with⟨rfl,hl⟩|⟨x,rest,rfl,hl⟩
  ·exact go []<|aH (by simp at hl|-;omega)<|go []<|af rfl (Sub.int (by exact uD hx hp))
  ·refine go []<|aM zQ<|ix zO (aK j0 hx rfl)<|oP (eO fA rfl rfl (hP x (by rw[hx];simp)))<|br (fun h1=>?_) (fun h1=>?_)
   ·exact af rfl (Sub.int (by exact uE hx hp h1))
   ·exact sd (ao zO)<|nx ⟨pre++[x],rest,by simp[hx],jX hp h1⟩ zS (Le.mk rfl (.s rfl rfl (.cons rfl (Sub.refl _) (rh cR) (.n 2 rfl rfl (.cons rfl (Sub.int zS) rfl .nil)))) .nil)
def aer(l:List dE)(f:FuncId)(bO:List D)(cR:D.bw.dT bO=true)(P:dE->Bool)(fA:∀(args:Array Value)(w:World),(callFunc f args).run prog w=.ok (.enter f args) w)(hP:∀x∈l,Fc prog f (.agg (j0 x)::bO) (.b (P x))):Fc prog 182 [ru l,.fn (.func f) [] bO] (.b (l.any P)):=by
 refine Fc.mk' [4] func182 rfl ntmps182 rfl (by simp[D.bw,D.bw.dT,cR]) rfl (fun t w=>results_tmp results182 t _ w) ?_;exact go []<|oP (ah call236 rfl (aj4 l f bO cR P fA hP))<|af rfl (Sub.bool (by exact s0 P l))
end Go.T
namespace Go.T
open Go
variable[bX]
theorem QN{w:World}{O:Nat->Prop}{ρ:aA}:∀{ds:List D}{vs:List Value}{i:Nat}{d:D},Vs w O ρ ds vs->ds[i]?=some d->∃v,vs[i]?=some v/\V w O ρ d v
 |[],vs,i,d,_,h=>by simp at h
 |e::ds,vs,0,d,h,hd=>by
  simp only[Vs]at h;obtain⟨u,us,rfl,h1,_⟩:=h;simp at hd;subst hd;exact⟨u,by simp,h1⟩
 |e::ds,vs,i+1,d,h,hd=>by
  simp only[Vs]at h;obtain⟨u,us,rfl,_,h2⟩:=h;obtain⟨v,h3,h4⟩:=QN h2 (by simpa using hd);exact⟨v,by simpa using h3,h4⟩
def apk{P:Program}{env:Env}{dst:Option Tmp}{ty:TypeId}{pos:String}{ar:Array Edge}{g:Option (Nat×Bool)}{t e:TypeId}{x y:Operand}{n:Nat}{k:IntKind}{i:Int}{cs:List D}{r:D}(hu:P.underlying t=some (.array n e))(ha:∀w,(isAgg e).run P w=.ok false w)(hs:∀w,(sizeOf e).run P w=.ok 1 w)
  (hx:env.op x=some (.agg cs))(hy:env.op y=some (.raw (.int k i)))(h0:0<=i)(hi:i<n)(hr:cs[i.toNat]?=some r)(Z:ae):
  aq P ⟨dst,.index t x y,ty,pos,ar,g⟩ env Z r Z:=
 .val fun O ρ a w _ hv=>by
  have h1:=hv x (by simp[Op.operands]) _ hx;have h2:=hv y (by simp[Op.operands]) _ hy;simp only[V]at h1 h2;obtain⟨vs,e1,h3⟩:=h1;obtain⟨v,h4,h5⟩:=QN h3 hr;have h6:vs[i.toNat]?=some v:=by simpa using h4
  refine⟨v,?_,h5⟩;simp[execOp,Instr.index,h2,asIntOf,bW hu,e1,h0,hi,hs,part,ha,h6]
end Go.T
namespace Go.T
open Go
def iT{α:Type}{b:Bool}{x y:α}(h:b=true):x=if b=true then x else y:=by rw[aV h]
def iF{α:Type}{b:Bool}{x y z:α}(h:b=false)(k:z=y):z=if b=true then x else y:=by rw[aF (by rw[h];simp)];exact k
def fL(pos part:Bool)(f:aO):Int:=va pos part f (H5 pos part f) (decide (40<((lB f.num [45]).length:Int))||decide (40<((lB f.den [45]).length:Int)))
def jR(f:Fact)(n:Int):aO:=
 if n=4 then⟨f.dc,[]⟩else if n=5 then⟨f.l9,[]⟩else if n=6 then⟨f.mb,[]⟩else if n=7 then f.dn else if n=8 then f.ratio else if n=9 then f.share else dJ
@[reducible] def ago(f:Fact):List D:=[.str [],.str [],.str [],.str [],.str [],.str [],.str [],.str [],.str f.dc,.str [],.str f.l9,.str [],.str f.mb,.str [],.str f.dn.num,.str f.dn.den,.str f.ratio.num,.str f.ratio.den,.str f.share.num,.str f.share.den,.str [],.str [],.str [],.str [],.str [],.str []]
def atz{f:Fact}{n:Int}(h0:0<=n)(h1:n<13):((ago f).drop (n.toNat*2)).take 2=cK (jR f n):=by
 have:n=0\/n=1\/n=2\/n=3\/n=4\/n=5\/n=6\/n=7\/n=8\/n=9\/n=10\/n=11\/n=12:=by omega
 rcases this with rfl|rfl|rfl|rfl|rfl|rfl|rfl|rfl|rfl|rfl|rfl|rfl|rfl<;>rfl
def GU(f g:aO):decide ([f.num,f.den]=[g.num,g.den])=decide (f=g):=by
 rw[ou];cases f;cases g;simp
def eG(f:Fact)(n:Int):Bool:=
 if decide (n=0)=true then decide (f.dV=[])else if decide (n=1)=true then decide (f.other=[])else if decide (n=2)=true then decide (f.cur=[])else if decide (n=3)=true then decide (f.target=[])
 else if decide (n=10)=true then decide ((f.fF.length:Int)=0)else if decide (n=11)=true then decide ((f.opts.length:Int)=0)else if decide (n=12)=true then decide (f.choice=0)else decide (jR f n=dJ)
def aoP{x y:dE}(h:(!decide ([x.fT,x.dc]=[y.fT,y.dc]))=false):x=y:=by
 cases x;cases y;simpa using h
def aoQ{x y:dE}(h:(!decide ([x.fT,x.dc]=[y.fT,y.dc]))=true):¬x=y:=by
 rintro rfl;simp at h
@[reducible] def ri(x:cY):List aa:=[x.other,x.ratio.num,x.ratio.den,x.dn.num,x.dn.den,x.value.num,x.value.den]
def an5{x y:cY}(h:(!decide (ri x=ri y))=false):x=y:=by
 rcases x with⟨a,⟨b,c⟩,⟨d,e⟩,⟨f,g⟩⟩;rcases y with⟨a',⟨b',c'⟩,⟨d',e'⟩,⟨f',g'⟩⟩;simp[ri]at h;obtain⟨rfl,rfl,rfl,rfl,rfl,rfl,rfl⟩:=h;rfl
def an6{x y:cY}(h:(!decide (ri x=ri y))=true):¬x=y:=by
 rintro rfl;simp at h
def Gb{α:Type}{l:List α}{n:Nat}(h:l.length=n+1):∃y r,l=y::r:=by
 cases l with
 |nil=>simp at h
 |cons y r=>exact⟨y,r,rfl⟩
def l4(a b:Fact):Bool:=decide (a.key=b.key)&&decide (a.iB=b.iB)&&(a.cancelled==b.cancelled)&&decide (a.day=b.day)&&decide (a.kind=b.kind)&&decide (a.dV=b.dV)&&decide (a.other=b.other)&&decide (a.cur=b.cur)&&decide (a.target=b.target)
 &&decide (a.dc=b.dc)&&decide (a.l9=b.l9)&&decide (a.mb=b.mb)&&decide ([a.dn.num,a.dn.den]=[b.dn.num,b.dn.den])&&decide ([a.ratio.num,a.ratio.den]=[b.ratio.num,b.ratio.den])&&decide ([a.share.num,a.share.den]=[b.share.num,b.share.den])
 &&j1 a.fF b.fF&&j1 a.opts b.opts&&decide (a.choice=b.choice)
open Go.Proofs Go.Proofs.Tryz
def anW(a b c d:aa)(ha:a.length<=1000)(hb:b.length<=1000)(hc:c.length<=1000)(hd:d.length<=1000):Fc prog 307 [.str a,.str b,.str c,.str d,.bj [.fn (.func 305) [] []]] (.a_ [.str (ofInt (val a*val d-val c*val b)),.str (ofInt (val b*val d))]):=by
 refine gq func307 ntmps307 results307 ?_;have h1:=Is a d;have h2:=Is c b;have h3:=Is b d;exact go []<|oP (eO call305 rfl rfl (Oy _ _ zO zO))<|oP (eO call305 rfl rfl (Oy _ _ zO zO))<|oP (ah call308 rfl (aru _ _ zO zO))<|oP (eO call305 rfl rfl (Oy _ _ zO zO))<|ord<|cw rfl rfl (Sub.str (by rw[gO,gO])) (Sub.refl _)
def anY:Fc prog 270 [] (.agg [.fn (.func 306) [] [.bj [.fn (.func 305) [] []]],.fn (.func 307) [] [.bj [.fn (.func 305) [] []]],.fn (.func 309) [] [.bj [.fn (.func 305) [] []]],.fn (.func 310) [] [.bj [.fn (.func 305) [] []]]]):=by
 refine Fc.jM func270 rfl ntmps270 rfl rfl rfl ?_;refine go [2,99999] ?_;refine U.bc (Le.fx 1 1 rfl rfl rfl rfl) ?_;refine go [99999]<|U.ret (?_);exact Rd.cA results270 isAgg279 sizeOf279 rfl rfl rfl (Sub.agg (.r (.cons (Sub.refl _) (.r (.r .nil)))))
def acs(f g:aO)(hf:f.num.length<=900/\f.den.length<=900)(hg:g.num.length<=900/\g.den.length<=900):Fc prog 269 [.fn (.func 307) [] [.bj [.fn (.func 305) [] []]],.agg (cK f),.agg (cK g)] (.agg (cK (zM f g))):=by
 refine Fc.jM func269 rfl ntmps269 rfl rfl rfl ?_;obtain⟨qM,bM,A2,Vh⟩:=Qd hf hg zD;have hm1:=CA (BD (bQ f).1 (bQ g).2) (k:=1800) zO;have hm2:=CA (BD (bQ g).1 (bQ f).2) (k:=1800) zO;have hs:=anK hm1 hm2;have M5:=Is (bQ f).2 (bQ g).2;refine go [99999]<|oP (ah call222 rfl (I0 f zO))<|oP (ah call222 rfl (I0 g zO))<|oP (eO call307 rfl rfl (anW _ _ _ _ zO zO zO zO))<|oP (ah call224 rfl (N4 _ _ zO zO ao3))<|U.ret (?_);exact Rd.cA results269 isAgg35 sizeOf35 rfl rfl rfl (Sub.agg (.cons (Sub.str (by rw[gO,gO];rfl)) (.cons (Sub.str (by rw[gO,gO];rfl)) .nil)))
def ahF(f g:aO)(hf:f.num.length<=900/\f.den.length<=900)(hg:g.num.length<=900/\g.den.length<=900):Fc prog 223 [.agg (cK f),.agg (cK g)] (.agg (cK (zM f g))):=by
 refine Fc.jM func223 rfl ntmps223 rfl rfl rfl ?_;refine go [99999]<|oP (ah call270 rfl anY)<|oP (apk (r:=.fn (.func 307) [] [.bj [.fn (.func 305) [] []]]) underlying279 isAgg278 sizeOf278 rfl rfl zD zD rfl)<|oP (ah call269 rfl (acs _ _ zA zA))<|ord<|U.ret (?_);exact Rd.cA results223 isAgg35 sizeOf35 rfl rfl rfl (Sub.agg (.r (.r .nil)))
def Tm(f g:aO)(hf:f.num.length<=900/\f.den.length<=900)(hg:g.num.length<=900/\g.den.length<=900):Fc prog 176 [.agg (cK f),.agg (cK g)] (.i (sR f g)):=by
 refine ay func176 ntmps176 results176 ?_;have hl:=ars (k:=900) zD hf hg;have hp:=B0 (zM f g);exact go []<|oP (ah call223 rfl (ahF _ _ zA zA))<|oP (ah call222 rfl (I0 _ zO))<|oP (ah call186 rfl (CN _ [] (by rw[hp];omega) zS))<|af rfl (Sub.int (by rw[hp];rfl))
def OM(f:aO)(pos part:Bool)(hs:nn f):Fc prog 175 [.agg (cK f),.bj [.b pos],.bj [.b part]] (.i (fL pos part f)):=by
 refine ay func175 ntmps175 results175 ?_;have hf:f.num.length<=900/\f.den.length<=900:=⟨dM hs.1 zD,dM hs.2 zD⟩;refine go []<|oP (ah call176 rfl (Tm f dJ hf zD))<|oP (ah call177 rfl (TW _ zA))<|br (fun h1=>?_) (fun h1=>?_)
 ·exact af rfl (Sub.int (by unfold fL va;exact jy h1))
 ·refine oP (ah call178 rfl (Tn _))<|gP (fun hg=>ah call178 rfl (Tn _))<|br (fun h2=>?_) (fun h2=>?_)
  ·exact af rfl (Sub.int (by unfold fL va;exact dF h1 (jy h2)))
  ·refine gP (fun hg=>ah call179 rfl (ahy [49] zD))<|gP (fun hg=>ah call176 rfl (Tm f (cS (val [49]) (val [49])) hf (Xy (k:=2) zD zD zD|>.imp (dM · zD) (dM · zD))))<|ord<|br (fun h3=>?_) (fun h3=>?_)
   ·exact af rfl (Sub.int (by unfold fL va;exact dF h1 (dF h2 (jy h3))))
   ·exact af rfl (Sub.int (by unfold fL va;exact dF h1 (dF h2 (dF h3 rfl))))
def CI(a b:Bool):Fc prog 120 [.b a,.b b] (.fn (.func 175) [] [.bj [.b a],.bj [.b b]]):=by
 refine ay func120 ntmps120 results120 ?_;refine go [1] ?_;refine U.bc (Le.fx 2 0 rfl rfl rfl rfl) ?_;refine U.bc (Le.fx 3 1 rfl rfl rfl rfl) ?_;exact go []<|af rfl (by exact Sub.refl _)
end Go.T
namespace Go.T
open Go
variable[bX]
variable{P:Program} {env:Env} {dst:Option Tmp} {ty:TypeId} {pos:String} {ar:Array Edge} {g:Option (Nat×Bool)}
inductive wk(P:Program):List Field->Nat->Nat->Prop
 |nil (k:Nat):wk P [] k k
 |str {f:Field} {fs:List Field} {k n:Nat} (hn:(f.name== "_")=false) (hu:P.underlying f.type=some .string) (ha:∀w,(isAgg f.type).run P w=.ok false w) (ho:f.offset=k) (r:wk P fs (k+1) n):wk P (f::fs) k n
 |sub {f:Field} {fs gs:List Field} {k n m:Nat} (hn:(f.name== "_")=false) (hu:P.underlying f.type=some (.struct gs.toArray)) (hp:P.stoodInHeld f.type=false) (ha:∀w,(isAgg f.type).run P w=.ok true w) (hs:∀w,(sizeOf f.type).run P w=.ok m w) (hm:gs.length=m) (hg:wj P gs 0) (ho:f.offset=k) (r:wk P fs (k+m) n):wk P (f::fs) k n
def agw{d:Nat}{xs ys:List aa}{fs:List Field}{k n:Nat}(h:wk P fs k n)(hx:n=xs.length)(hy:n=ys.length)(w:World):
  k<=n/\(Op.eqFields (d+2) (xs.map fun s=>Value.string ⟨s.toArray⟩).toArray (ys.map fun s=>Value.string ⟨s.toArray⟩).toArray fs).run P w=.ok (decide (xs.drop k=ys.drop k)) w:=by
 induction h with
 |nil k=>
  rw[iP zO,iP zO];simp[Op.eqFields]
 |@str f fs k n hn hu ha ho r ih=>
  obtain⟨hk,ih⟩:=ih hx hy;have h1:k<xs.length:=by omega
  have h2:k<ys.length:=by omega
  have yw:decide (xs.drop k=ys.drop k)=(decide (xs[k]=ys[k])&&decide (xs.drop (k+1)=ys.drop (k+1))):=by
   rw[ju h1,ju h2];simp only[l_,KU]
  refine⟨by omega,?_⟩;rw[yw];have th:f.name≠ "_":=by simpa using hn
  simp only[Op.eqFields,th,ne_eq,IB,mX,Sem.run_bind,part,ha,Result.andThen_ok,gM,pb,ho];simp only[GJ,fR,eu h1,eu h2,jk,Sem.run_pure,Result.andThen_ok,run_equalIn_string _ _ _ _ _ hu,xF];by_cases e:xs[k]=ys[k]
  ·simp only[e,BEq.rfl,zh,gM,pb,C7,oL];exact ih
  ·have:(xs[k]==ys[k])=false:=by simpa using e
   simp only[this,BB,mX,Sem.run_pure,e,BL,zT]
 |@sub f fs gs k n m hn hu hp ha hs hm hg ho r ih=>
  obtain⟨hk,ih⟩:=ih hx hy;refine⟨by omega,?_⟩;have th:f.name≠ "_":=by simpa using hn
  have h_:P.fieldsOf f.type=gs.toArray:=by simp[Program.fieldsOf,hu]
  have he:∀zs:List aa,(zs.map fun s=>Value.string ⟨s.toArray⟩).toArray.extract k (k+m)=(((zs.drop k).take m).map fun s=>Value.string ⟨s.toArray⟩).toArray:=by
   intro zs;simp[Iz,List.map_drop]
  have h3:=fun us vs=>run_equalIn_struct (P:=P) w (d+1) f.type us vs (by rw[h_];exact hu) hp;have h6:=SV (d:=d) hg (xs:=(xs.drop k).take m) (ys:=(ys.drop k).take m) zQ zQ w;rw[uH,uH]at h6;have yw:decide (xs.drop k=ys.drop k)=(decide ((xs.drop k).take m=(ys.drop k).take m)&&decide (xs.drop (k+m)=ys.drop (k+m))):=by
   rw[<-KU,ou];constructor
   ·intro e;rw[e];exact⟨rfl,by rw[<-tD,<-tD,e]⟩
   ·rintro⟨e1,e2⟩;rw[<-lG m (xs.drop k),<-lG m (ys.drop k),e1,tD,tD,e2]
  rw[yw];rw[h_]at h3;simp only[Op.eqFields,th,ne_eq,IB,mX,Sem.run_bind,part,ha,hs,Result.andThen_ok,ho,Sem.run_pure,he];rw[h3,h6];simp only[Result.andThen_ok];by_cases e:(xs.drop k).take m=(ys.drop k).take m
  ·simp only[e,zh,gM,pb,C7,oL];exact ih
  ·simp only[e,BL,BB,mX,Sem.run_pure,zT]
def apb{op:BinOp}{t t':TypeId}{x y:Operand}{xs ys:List aa}{fs:List Field}{n:Nat}(A6:op=.eql\/op=.neq)(hu:P.underlying t=some (.struct fs.toArray))(hp:P.stoodInHeld t=false)(hg:P.eqGuardType P.depth t=false)(hf:wk P fs 0 n)(wT:n=xs.length)(wU:n=ys.length)
  (hx:env.op x=some (.agg (xs.map D.str)))(hy:env.op y=some (.agg (ys.map D.str)))(Z:ae):aq P ⟨dst,.binOp op t x y t',ty,pos,ar,g⟩ env Z (.raw (.bool (if op=.eql then decide (xs=ys)else !decide (xs=ys)))) Z:=
 .val fun _ _ a w _ hv=>by
  have h1:=hv x (by simp[Op.operands]) _ hx;have h2:=hv y (by simp[Op.operands]) _ hy;simp only[V]at h1 h2;obtain⟨us,e1,h1⟩:=h1;obtain⟨vs,e2,h2⟩:=h2;have h1:=Cy h1;have h2:=Cy h2;have h_:P.fieldsOf t=fs.toArray:=by simp[Program.fieldsOf,hu]
  have h3:=run_equalIn_struct (P:=P) w 9999 t us vs (by rw[h_];exact hu) hp;have h4:us=(xs.map fun s=>Value.string ⟨s.toArray⟩).toArray:=by rw[<-h1]
  have h5:vs=(ys.map fun s=>Value.string ⟨s.toArray⟩).toArray:=by rw[<-h2]
  have h6:=(agw (d:=9997) hf (xs:=xs) (ys:=ys) wT wU w).2;rw[h_]at h3;simp only[h4,h5]at h3 e1 e2;simp only[uH]at h6;refine⟨.bool (if op=.eql then decide (xs=ys)else !decide (xs=ys)),?_,by simp only[V]⟩;rcases A6 with rfl|rfl
  ·simp[execOp,e1,e2,run_eqGuard_agg _ _ _ _ _ _ _ hg,run_eql_struct,h3,h6]
  ·simp[execOp,e1,e2,run_eqGuard_agg _ _ _ _ _ _ _ hg,run_neq_struct,h3,h6]
def ZO{t t':TypeId}{x y:Operand}{xs ys:List aa}{fs:List Field}{n:Nat}{ds es:List D}(hu:P.underlying t=some (.struct fs.toArray))(hp:P.stoodInHeld t=false)(hg:P.eqGuardType P.depth t=false)(hf:wk P fs 0 n)(wT:n=xs.length)(wU:n=ys.length)
  (hx:env.op x=some (.agg ds))(hy:env.op y=some (.agg es))(hd:ds=xs.map D.str)(he:es=ys.map D.str)(Z:ae):aq P ⟨dst,.binOp .neq t x y t',ty,pos,ar,g⟩ env Z (.raw (.bool (!decide (xs=ys)))) Z:=by
 subst hd;subst he;exact apb (.inr rfl) hu hp hg hf wT wU hx hy Z
def w7:Value->Bool
 |.nilIface=>true
 |_=>false
def apg{t t':TypeId}{x:Operand}{v:Value}{ms:Array (String×TypeId)}(hu:P.underlying t=some (.interface ms))(hx:env.op x=some (.raw v))(uW:v=.nilIface\/∃te pe,v=.iface te pe)(Z:ae):
  aq P ⟨dst,.binOp .eql t x (.const .nilIface) t',ty,pos,ar,g⟩ env Z (.raw (.bool (w7 v))) Z:=
 .val fun _ _ a w _ hv=>by
  have h1:=hv x (by simp[Op.operands]) _ hx;simp only[V]at h1;refine⟨.bool (w7 v),?_,by simp only[V]⟩;have e2:a.eval (.const .nilIface)=.nilIface:=rfl;rcases uW with rfl|⟨te,pe,rfl⟩
  ·have h3:(eqGuard .eql t x (.const .nilIface) .nilIface .nilIface).run P w=.ok () w:=by cases x<;>rfl
   have h:∀d:Nat,(Op.equalIn (d+1) t .nilIface .nilIface).run P w=.ok true w:=fun d=>by simp[Op.equalIn,run_underlying hu]
   have h4:(binOp .eql t .nilIface .nilIface).run P w=.ok (.bool true) w:=by
    show((Op.equalIn (9999+1) t .nilIface .nilIface).bind fun b=>Sem.pure (Value.bool b)).run P w=_;rw[Sem.run_bind',h];rfl
   simp only[execOp,h1,e2,w7];rw[Sem.run_bind,Sem.run_bind,h3];simp only[Result.andThen_ok];rw[h4];rfl
  ·have h3:(eqGuard .eql t x (.const .nilIface) (.iface te pe) .nilIface).run P w=.ok () w:=rfl;have h:∀d:Nat,(Op.equalIn (d+1) t (.iface te pe) .nilIface).run P w=.ok false w:=fun d=>by simp[Op.equalIn,run_underlying hu]
   have h4:(binOp .eql t (.iface te pe) .nilIface).run P w=.ok (.bool false) w:=by
    show((Op.equalIn (9999+1) t (.iface te pe) .nilIface).bind fun b=>Sem.pure (Value.bool b)).run P w=_;rw[Sem.run_bind',h];rfl
   simp only[execOp,h1,e2,w7];rw[Sem.run_bind,Sem.run_bind,h3];simp only[Result.andThen_ok];rw[h4];rfl
end Go.T
namespace Go.T
open Go Go.Proofs Go.Shelf Go.RowKit
def Kh(s:aa)(p:Int×Value):Prop:=(Lib.atoiAll s=.ok p.1/\p.2=.nilIface)\/((∀v,Lib.atoiAll s≠.ok v)/\∃te pe,p.2=.iface te pe)
def acB{s:aa}{p:Int×Value}(h:Kh s p):p.2=.nilIface\/∃te pe,p.2=.iface te pe:=h.imp (·.2) (·.2)
def S0{w:World}{O:Nat->Prop}(h:Gl w O){g:Nat}(hg:g∈Lu):∃te pe,w.cell? ⟨g,0,none⟩=some (.iface te pe):=by
 obtain⟨⟨te,pe,T,fr,h1⟩,_⟩:=h.2 g hg;exact⟨te,pe,by simp[World.cell?,h1]⟩
def akP(w:World)(t:ByteArray):gm w (Lib.bytesWorld w om t):=gm.below (Lib.bytesWorld_below w om t)
def acC(s:aa)(hs:s.length<=1000):z7 Tryz.prog 234 [.str s] (Kh s) (fun p=>.a_ [.i p.1,.raw p.2]):=⟨fun w O ρ vals hO hg hv=>by
 simp only[Vs,V]at hv;obtain⟨_,_,rfl,⟨rfl,_⟩,rfl⟩:=hv;have bb:(⟨s.toArray⟩:ByteArray).size=s.length:=by simp[ByteArray.size]
 have hl:(⟨s.toArray⟩:ByteArray).data.toList=s:=by simp
 cases e:Lib.atoiAll s with
 |ok v=>
  refine Calls.mono (Tryz.strconv_Atoi_ok ⟨s.toArray⟩ zO v (by rw[hl];exact e) w) ?_;rintro e' w' ⟨rfl,hw⟩;refine⟨(v,.nilIface),_,.inl ⟨e,rfl⟩,rfl,by simp[V,Vs,D.i],?_⟩;rcases hw with rfl|⟨t,rfl⟩
  ·exact⟨dP _,fun _ _=>rfl,rfl,rfl,iE.eq rfl rfl⟩
  ·exact akP w t
 |range=>
  obtain⟨te,pe,hc⟩:=S0 hg (g:=4) zD;refine Calls.mono (Tryz.strconv_Atoi_range ⟨s.toArray⟩ zO (by rw[hl];exact e) _ w hc (.inr ⟨_,_,rfl⟩)) ?_;rintro e' w' ⟨N,rfl,_,_,hb⟩;exact⟨(Lib.atoiSat s,.iface 307 (.pointer (some ⟨N,0,none⟩))),_,.inr ⟨fun v h=>(by rw[e]at h;cases h),_,_,rfl⟩,rfl,by simp[V,Vs,D.i,hl],gm.below hb⟩
 |_=>
  obtain⟨te,pe,hc⟩:=S0 hg (g:=3) zD;refine Calls.mono (Any.strconv_Atoi_syntax Tryz.NN ⟨s.toArray⟩ zO (by rw[hl];exact e) _ w hc (.inr ⟨_,_,rfl⟩)) ?_;rintro e' w' ⟨N,rfl,_,_,hb⟩;exact⟨(0,.iface 307 (.pointer (some ⟨N,0,none⟩))),_,.inr ⟨fun v h=>(by rw[e]at h;cases h),_,_,rfl⟩,rfl,by simp[V,Vs,D.i];rfl,gm.below hb⟩⟩
def akG(n:Int)(h0:0<=n)(h1:n<=9999):Fc Tryz.prog 235 [.i n] (.str (Lib.itoa n)):=.rf fun w O ρ vals hg hv=>by
 simp only[Vs,V]at hv;obtain⟨_,_,rfl,rfl,rfl⟩:=hv;refine(Tryz.strconv_Itoa n zO zO w (aaE hg)).mono ?_;rintro e w' ⟨rfl,k,os,rfl⟩;refine⟨_,rfl,?_,Wo w k os⟩;simp only[V];have:(Lib.itoa n).length<=20:=by
  unfold Lib.itoa;rw[aF zO,Lib.decDigits_length];by_cases h:n.toNat=0
  ·rw[h,Lib.nDigits_small zO];omega
  ·have:=Lib.numDigits_eq n.toNat zO zO;split at this<;>omega
 exact⟨trivial,by unfold aD;omega⟩
def aeF(s:aa):(gH s 47).2.1.length<=s.length:=by
 unfold gH;split
 ·simp
 ·simp
def r3(s:aa):Bool:=isName (gH s 47).1&&(match Lib.atoiAll (gH s 47).2.1 with|.ok n=>decide (1<=n)&&decide (n<=9999)&&decide (Lib.itoa n=(gH s 47).2.1)|_=>false)
def akD{s:aa}{p:Int×Value}(h:Kh (gH s 47).2.1 p):(isName (gH s 47).1&&w7 p.2&&decide (1<=p.1)&&decide (p.1<=9999)&&decide (Lib.itoa p.1=(gH s 47).2.1))=r3 s:=by
 obtain⟨n,v⟩:=p;unfold r3;rcases h with⟨h1,h2⟩|⟨h1,te,pe,h2⟩
 ·simp only at h1 h2;rw[h1,h2];simp[w7,Bool.and_assoc]
 ·simp only at h1 h2;rw[h2];cases e:Lib.atoiAll (gH s 47).2.1 with
  |ok v=>exact absurd e (h1 v)
  |range=>simp[w7]
  |_=>simp[w7]
end Go.T
