/- Contracts of functions that the statement reaches, and the logic in which they are proved (no condition). -/
import Derived.Test.YtapflgppmigcdaaGreatDoorA20
set_option linter.all false
set_option maxRecDepth 20000
namespace Go.T
open Go
def mU(l:List aS):List (List aa):=l.foldl (fun g i=>lh g [i.id]) []
def mG(all l:List Fact)(g:List (List aa)):List (List aa):=l.foldl (fun g f=>lh g (fe all f.key)) g
@[simp] def axw:mU []=[]:=rfl
@[simp] def awJ(all:List Fact)(g:List (List aa)):mG all [] g=g:=rfl
@[simp] def awh(k:aa):fe [] k=[]:=rfl
def akp(l:List aS)(x:aS):mU (l++[x])=lh (mU l) [x.id]:=by unfold mU;rw[rH];rfl
def agY(all l:List Fact)(g:List (List aa))(x:Fact):mG all (l++[x]) g=lh (mG all l g) (fe all x.key):=by unfold mG;rw[rH];rfl
@[reducible] def ZX(s:Setup)(all l:List Fact):List (List aa):=s.insts.map (fun x=>[x.id])++l.map fun f=>fe all f.key
def Uu{A B gs:List (List aa)}(e:∀z,z∈A↔z∈B)(h:qt A gs):qt B gs:=
 ⟨h.ne,h.Kc,h.nd,fun r hr=>h.DV r ((e r).2 hr),fun g hg x hx y hy=>(h.Ga g hg x hx y hy).mono fun l hl=>⟨l,(e l).1 hl,fun _=>id⟩,fun g hg x hx=>(h.It g hg x hx).imp fun _ k=>⟨(e _).1 k.1,k.2⟩⟩
theorem V9(Ls:List (List aa)):∀(l:List aS)(gs:List (List aa)),qt Ls gs->qt (l.map (fun x=>[x.id])++Ls) (l.foldl (fun g i=>lh g [i.id]) gs)
 |[],_,h=>h
 |x::r,gs,h=>by
  have h2:=V9 ([x.id]::Ls) r _ (Wj (jD:=[x.id]::Ls) (ns:=[x.id]) h fun r=>by rw[cr]);have e:∀z:List aa,z∈(r.map (fun x=>[x.id])++[x.id]::Ls)↔z∈((x::r).map (fun x=>[x.id])++Ls):=fun z=>by
   simp only[cP,jF,cM,cr];constructor
   ·rintro(a|a|a)
    ·exact .inr (.inl a)
    ·exact .inl a
    ·exact .inr (.inr a)
   ·rintro(a|a|a)
    ·exact .inr (.inl a)
    ·exact .inl a
    ·exact .inr (.inr a)
  exact Uu e h2
theorem Td(all:List Fact):∀(l:List Fact)(Ls gs:List (List aa)),qt Ls gs->qt (Ls++l.map fun f=>fe all f.key) (mG all l gs)
 |[],Ls,_,h=>by simpa[mG]using h
 |x::r,Ls,gs,h=>by
  have h2:=Td all r (fe all x.key::Ls) _ (Wj (jD:=fe all x.key::Ls) (ns:=fe all x.key) h fun r=>by rw[cr]);refine Uu (fun z=>?_) h2;simp only[cP,jF,cM,cr];constructor
  ·rintro(a|a|a)
   ·exact .inr (.inl a)
   ·exact .inl a
   ·exact .inr (.inr a)
  ·rintro(a|a|a)
   ·exact .inr (.inl a)
   ·exact .inl a
   ·exact .inr (.inr a)
def He(s:Setup)(l:List Fact):List (List aa):=mG l l (mU s.insts)
def Mj(s:Setup)(l:List Fact):qt (ZX s l l) (He s l):=by
 have h1:=V9 [] s.insts [] aiH;rw[iJ]at h1;exact Td l l _ _ h1
def ap4(s:Setup)(l:List Fact):gJ (ZX s l l)=gJ (fa s l):=by
 refine aiB (fun r hr=>?_) (fun r hr=>?_)
 ·rcases cM.1 hr with h|h
  ·exact⟨r,by unfold fa;exact ln _ (ln _ h),fun _=>id⟩
  ·exact⟨r,by unfold fa;exact vv _ h,fun _=>id⟩
 ·unfold fa at hr;rcases cM.1 hr with h|h
  ·rcases cM.1 h with h|h
   ·exact⟨r,ln _ h,fun _=>id⟩
   ·obtain⟨f,hf,rfl⟩:=dh.1 h;refine⟨fe l f.key,vv _ (dh.2 ⟨f,hf,rfl⟩),fun x hx=>?_⟩;unfold fe;exact lA.2 ⟨_,dh.2 ⟨f,eX.2 ⟨hf,by simp⟩,rfl⟩,hx⟩
  ·exact⟨r,vv _ h,fun _=>id⟩
structure uk(gs out cur:List (List aa)):Prop where
 perm:(out++cur).Perm gs
 sorted:(out.map (·.headD [])).Pairwise fun a b=>a<=b
 le:∀a∈out,∀b∈cur,a.headD []<=b.headD []
def aag(gs:List (List aa)):uk gs [] gs:=⟨by simp,by simp,by simp⟩
def aqF{gs out cur pre rest:List (List aa)}{g:List aa}(h:uk gs out cur)(hc:cur=pre++g::rest)(hm:∀b∈cur,g.headD []<=b.headD []):uk gs (out++[g]) (pre++rest):=by
 subst hc;refine⟨?_,?_,?_⟩
 ·refine List.Perm.trans ?_ h.perm;rw[ng];exact List.Perm.append_left _ (show(g::(pre++rest)).Perm (pre++g::rest)from List.perm_middle.symm)
 ·rw[Bh];refine pd.2 ⟨h.sorted,by simp,fun a ha b hb=>?_⟩;obtain⟨x,hx,rfl⟩:=dh.1 ha;obtain rfl:b=g.headD []:=by simpa using hb
  exact h.le x hx g zS
 ·intro a ha b hb;have rN:b∈pre++g::rest:=by
   rcases cM.1 hb with k|k
   ·exact ln _ k
   ·exact vv _ (cC _ k)
  rcases cM.1 ha with k|k
  ·exact h.le a k b rN
  ·obtain rfl:a=g:=by simpa using k
   exact hm b rN
def aah{Ls gs out cur:List (List aa)}(h:uk gs out cur)(hg:qt Ls gs):∀b∈cur,b≠[]:=fun b hb=>hg.ne b (h.perm.mem_iff.1 (vv _ hb))
def aqE{gs out cur:List (List aa)}(h:uk gs out cur):out.length+cur.length=gs.length:=by have:=h.perm.length_eq;rwa[bl]at this
def aqD{s:Setup}{l:List Fact}{out:List (List aa)}(h:uk (He s l) out []):[]::out=aW s l:=by
 have hp:=h.perm;rw[iJ]at hp;unfold aW;rw[<-ap4,aiG (Mj s l) hp h.sorted]
def getD_at{l:List (List aa)}{k:Nat}(h:k<l.length):l.getD k []=l[k]:=by simp[fV,h]
@[reducible] def wh(cur:List (List aa))(k n:Nat):Prop:=∀j,j<n->(cur.getD k []).headD []<=(cur.getD j []).headD []
def alF(cur:List (List aa)):wh cur 0 1:=fun j hj=>by obtain rfl:j=0:=zO;exact J5 _
def alH{cur:List (List aa)}{k n:Nat}(h:wh cur k n)(bA:aa.lt ((cur.getD n []).headD []) ((cur.getD k []).headD [])=true):wh cur n (n+1):=fun j hj=>by
 have hl:=IA ((r9 _ _).1 bA);rcases eQ j n with q|q
 ·exact Gm hl (h j q)
 ·obtain rfl:j=n:=by omega
  exact J5 _
def alG{cur:List (List aa)}{k n:Nat}(h:wh cur k n)(bA:aa.lt ((cur.getD n []).headD []) ((cur.getD k []).headD [])=false):wh cur k (n+1):=fun j hj=>by
 rcases eQ j n with q|q
 ·exact h j q
 ·obtain rfl:j=n:=by omega
  have:¬(cur.getD j []).headD []<(cur.getD k []).headD []:=by rw[<-r9,bA];simp
  exact xo.1 this
def alI{cur:List (List aa)}{k:Nat}(h:wh cur k cur.length):∀b∈cur,(cur.getD k []).headD []<=b.headD []:=fun b hb=>by
 obtain⟨j,hj,rfl⟩:=DX hb;have:=h j hj;rwa[getD_at hj]at this
def aq8{cur:List (List aa)}{k:Nat}(h:k<cur.length):cur=cur.take k++cur.getD k []::cur.drop (k+1):=by
 rw[getD_at h,List.getElem_cons_drop,lG]
def aai{gs out cur:List (List aa)}{k:Nat}(h:uk gs out cur)(hk:k<cur.length)(hm:wh cur k cur.length):uk gs (out++[cur.getD k []]) (cur.take k++cur.drop (k+1)):=aqF h (aq8 hk) (alI hm)
theorem Wb:∀(l:List aS)(gs:List (List aa)),(l.foldl (fun g i=>lh g [i.id]) gs).flatten.length<=gs.flatten.length+l.length/\(l.foldl (fun g i=>lh g [i.id]) gs).length<=gs.length+l.length
 |[],gs=>by simp
 |x::r,gs=>by
  have h1:=Wb r (lh gs [x.id]);have h2:=WW gs [x.id];simp only[bD,hG]at h2;rw[oe,bD];omega
def ako(l:List aS):(mU l).flatten.length<=l.length/\(mU l).length<=l.length:=by
 have:=Wb l [];simp only[Kb,hG,mD]at this;exact this
theorem Tc{all:List Fact}{n:Nat}(hn:∀k,(fe all k).length<=n):∀(l:List Fact)(gs:List (List aa)),(mG all l gs).flatten.length<=gs.flatten.length+l.length*n/\(mG all l gs).length<=gs.length+l.length
 |[],gs=>by simp[mG]
 |x::r,gs=>by
  have h1:=Tc hn r (lh gs (fe all x.key));have h2:=WW gs (fe all x.key);have h3:=hn x.key;have e:mG all (x::r) gs=mG all r (lh gs (fe all x.key)):=rfl;rw[e,bD,Kp];omega
theorem R3{n:Nat}:∀(l:List Fact)(k:aa),(∀f∈l,(b_ f).length<=n)->(fe l k).length<=l.length*n
 |[],_,_=>by simp[fe]
 |x::r,k,h=>by
  have h1:=R3 r k fun f hf=>h f (by simp[hf]);have h2:=h x zS;unfold fe at h1|-;rw[bD,Kp];by_cases hk:x.key=k
  ·rw[xe (by simpa using hk),cP,fW,bl];omega
  ·rw[xl (by simpa using hk)];omega
def jv(x:aa)(l:List (List aa)):Int×Int:=l.foldl (fun(a:Int×Int) g=>(a.1+1,if s8 g x=true then a.1+1 else a.2)) (0,0)
def YX(x:aa)(l:List (List aa))(g:List aa):jv x (l++[g])=((jv x l).1+1,if s8 g x=true then(jv x l).1+1 else(jv x l).2):=by unfold jv;rw[rH];rfl
def Cp{α:Type}{P:List α->Prop}(h0:P [])(h:∀l x,P l->P (l++[x]))(l:List α):P l:=by
 have:∀m:List α,P m.reverse:=fun m=>by
  induction m with
  |nil=>exact h0
  |cons a m ih=>rw[List.reverse_cons];exact h _ _ ih
 have e:=this l.reverse;rwa[G9]at e
def aos(x:aa)(l:List (List aa)):(jv x l).1=l.length:=by
 refine Cp (P:=fun l=>(jv x l).1=l.length) rfl (fun l g ih=>?_) l;rw[YX,ih];simp
def zm(x:aa)(l:List (List aa))(g:List aa):(jv x (l++[g])).2=if s8 g x=true then(l.length:Int)+1 else(jv x l).2:=by rw[YX,aos]
def Mz{l:List aa}{x:aa}:s8 l x=true↔x∈l:=by
 unfold s8;rw[j_];constructor
 ·rintro⟨y,hy,e⟩;rw[<-aG e];exact hy
 ·intro h;exact⟨x,h,by simp⟩
def aov{x:aa}(l:List (List aa))(h:∀g∈l,x∉g):(jv x l).2=0:=by
 refine Cp (P:=fun l=>(∀g∈l,x∉g)->(jv x l).2=0) (fun _=>rfl) (fun l g ih hh=>?_) l h;rw[zm,aF (fun k=>hh g zS (Mz.1 k))];exact ih fun g hg=>hh g (by simp[hg])
def aow{x:aa}(p l:List (List aa))(h:∀g∈l,x∉g):(jv x (p++l)).2=(jv x p).2:=by
 refine Cp (P:=fun l=>(∀g∈l,x∉g)->(jv x (p++l)).2=(jv x p).2) (fun _=>by simp) (fun l g ih hh=>?_) l h;rw[<-ng,zm,aF (fun k=>hh g zS (Mz.1 k))];exact ih fun g hg=>hh g (by simp[hg])
def aou{x:aa}{p q:List (List aa)}{g:List aa}(hn:(p++g::q).flatten.Nodup)(hx:x∈g):(jv x (p++g::q)).2=(p.length:Int)+1:=by
 have e:p++g::q=(p++[g])++q:=by simp
 rw[e,aow,zm,aV (Mz.2 hx)];intro k hk hxk;rw[e,qX,wG]at hn;exact hn.2.2 x (lA.2 ⟨g,by simp,hx⟩) x (lA.2 ⟨k,hk,hxk⟩) rfl
def Qq{tl:List (List aa)}(hn:tl.flatten.Nodup)(x:aa):((jv x tl).2=0/\eW ([]::tl) x<0)\/((jv x tl).2≠0/\eW ([]::tl) x=(jv x tl).2/\0<=(jv x tl).2):=by
 by_cases h:∃g∈tl,x∈g
 ·obtain⟨g,hg,hx⟩:=h;obtain⟨p,q,rfl⟩:=List.append_of_mem hg;have h1:=aou hn hx;have h2:eW ([]::(p++g::q)) x=((p.length+1:Nat):Int):=Qp (by simpa using hn) zS hx;exact .inr ⟨by omega,by rw[h1,h2];rfl,by omega⟩
 ·refine .inl ⟨aov _ fun g hg hx=>h ⟨g,hg,hx⟩,?_⟩;unfold eW fw;rw[aF]
  ·omega
  ·intro k;obtain⟨g,hg,k⟩:=j_.1 k;obtain⟨m,hm,e⟩:=j_.1 k;rcases cr.1 hg with rfl|hg
   ·cases hm
   ·rw[<-aG e]at hm;exact h ⟨g,hg,hm⟩
structure xV(own:aa->Int)(pre:List aa)(at_:Int)(mixed:Bool):Prop where
 nz:∀x∈pre,own x≠0
 e0:pre=[]->at_=0
 mem:pre≠[]->∃y∈pre,own y=at_
 f:mixed=false->∀y∈pre,own y=at_
 t:mixed=true->∃y∈pre,∃z∈pre,own y≠own z
def atP(own:aa->Int):xV own [] 0 false:=⟨by simp,fun _=>rfl,fun h=>absurd rfl h,by simp,by simp⟩
def atQ{own:aa->Int}{pre:List aa}{a:Int}{m:Bool}{x:aa}(h:xV own pre a m)(hx:own x≠0):xV own (pre++[x]) (own x) (m||(decide (0<(pre.length:Int))&&decide (own x≠a))):=by
 refine⟨fun y hy=>?_,fun e=>by simp at e,fun _=>⟨x,by simp,rfl⟩,fun hm y hy=>?_,fun hm=>?_⟩
 ·rcases cM.1 hy with k|k
  ·exact h.nz y k
  ·obtain rfl:y=x:=by simpa using k
   exact hx
 ·rw[cq]at hm;rcases cM.1 hy with k|k
  ·have h0:0<(pre.length:Int):=by have:=List.length_pos_of_mem k;omega
   have h2:=hm.2;rw[iH h0,oL,dY]at h2;rw[h.f hm.1 y k];exact(rI.1 h2).symm
  ·obtain rfl:y=x:=by simpa using k
   rfl
 ·rw[fZ]at hm;rcases hm with hm|hm
  ·obtain⟨y,hy,z,hz,k⟩:=h.t hm;exact⟨y,by simp[hy],z,by simp[hz],k⟩
  ·rw[bd]at hm;have h0:pre≠[]:=by rintro rfl;simp at hm
   obtain⟨y,hy,e⟩:=h.mem h0;exact⟨x,by simp,y,by simp[hy],by rw[e];exact aG hm.2⟩
theorem LV:∀(l:List Int)(a:Int),(l.foldl min a<=a/\∀y∈l,l.foldl min a<=y)/\(a<=l.foldl max a/\∀y∈l,y<=l.foldl max a)
 |[],a=>by simp
 |x::r,a=>by
  have h1:=(LV r (min a x)).1;have h2:=(LV r (max a x)).2;simp only[oe,cr];refine⟨⟨by omega,fun y hy=>?_⟩,⟨by omega,fun y hy=>?_⟩⟩
  ·rcases hy with rfl|hy
   ·omega
   ·exact h1.2 y hy
  ·rcases hy with rfl|hy
   ·omega
   ·exact h2.2 y hy
def XT{l:List Int}{y:Int}(h:y∈l):tK l<=y/\y<=tI l:=by
 cases l with
 |nil=>cases h
 |cons a r=>
  have h1:=LV r a;unfold tK tI;rcases cr.1 h with rfl|h
  ·exact⟨h1.1.1,h1.2.1⟩
  ·exact⟨h1.1.2 y h,h1.2.2 y h⟩
section
variable{tl:List (List aa)} {ns:List aa}
@[reducible] def mq(tl:List (List aa))(x:aa):Int:=(jv x tl).2
def abu(hn:tl.flatten.Nodup){pre rest:List aa}{x:aa}(hx:ns=pre++x::rest)(h0:mq tl x=0):gh ([]::tl) ns=(0,6):=
 OQ hx (iH (by rcases Qq hn x with k|k;exact k.2;exact absurd h0 k.1))
def abv(hn:tl.flatten.Nodup){a:Int}{m:Bool}(h:xV (mq tl) ns a m):∀x∈ns,eW ([]::tl) x=mq tl x/\0<=mq tl x:=fun x hx=>by
 rcases Qq hn x with k|k
 ·exact absurd k.1 (h.nz x hx)
 ·exact k.2
def abr(hn:tl.flatten.Nodup){a:Int}(h:xV (mq tl) ns a false):gh ([]::tl) ns=(a,0):=by
 have hw:=abv hn h;refine OR ?_ (fun x hx=>by rw[(hw x hx).1];exact h.f rfl x hx) h.e0;by_cases e:ns=[]
 ·rw[h.e0 e];omega
 ·obtain⟨y,hy,k⟩:=h.mem e;rw[<-k];exact(hw y hy).2
def abt(hn:tl.flatten.Nodup){a:Int}(h:xV (mq tl) ns a true):gh ([]::tl) ns=(0,9):=by
 have hw:=abv hn h;obtain⟨y,hy,z,hz,k⟩:=h.t rfl;have e:ns.map (eW ([]::tl))=ns.map (mq tl):=C_ fun x hx=>(hw x hx).1;have h1:=XT (l:=ns.map (mq tl)) (dh.2 ⟨y,hy,rfl⟩);have h2:=XT (l:=ns.map (mq tl)) (dh.2 ⟨z,hz,rfl⟩);refine YA ?_ ?_ ?_
 ·rw[tM];intro x hx;rw[(hw x hx).1];have:=(hw x hx).2;simp;omega
 ·rw[bB,dY];have:=List.length_pos_of_mem hy;omega
 ·rw[e];exact iH zO
end
def Af(seen pre:List aa)(x:aa):Bool:=(!isName x||(decide (0<(pre.length:Int))&&!aa.lt (r6 pre) x))||s8 seen x
def bad_eq{seen pre:List aa}{x:aa}(h:ie pre):((!isName x||(decide (0<(pre.length:Int))&&!aa.lt (r6 pre) x))||(seen++pre).any (fun y=>decide (y=x)))=Af seen pre x:=by
 unfold Af;rw[pH,show(seen.any fun y=>decide (y=x))=s8 seen x from rfl];by_cases hp:pre=[]
 ·subst hp;simp
 ·cases hb:(decide (0<(pre.length:Int))&&!aa.lt (r6 pre) x)with
  |true=>simp
  |false=>
   have h0:decide (0<(pre.length:Int))=true:=iH (by have:=Av.2 hp;omega);rw[h0,oL]at hb;have hl:aa.lt (r6 pre) x=true:=by simpa using hb
   have:pre.any (fun y=>decide (y=x))=false:=by
    rw[tM];intro y hy;rw[cd];rintro rfl;obtain⟨p,z,rfl⟩:∃p z,pre=p++[z]:=⟨pre.dropLast,pre.getLast hp,(List.dropLast_concat_getLast hp).symm⟩;rw[WI]at hl;rcases cM.1 hy with k|k
    ·have h3:=(pd.1 h).2.2 y k z zS;exact N0 (H9 h3 hl) rfl
    ·obtain rfl:y=z:=by simpa using k
     exact N0 hl rfl
   rw[this];simp only[tC,gM]
def acH{pre:List aa}{x:aa}{seen:List aa}(h:ie pre)(hb:Af seen pre x=false):ie (pre++[x]):=by
 unfold Af at hb;rw[cq,cq]at hb;refine pd.2 ⟨h,by simp,fun y hy z hz=>?_⟩;obtain rfl:z=x:=by simpa using hz
 have hp:pre≠[]:=pw hy;have h0:decide (0<(pre.length:Int))=true:=iH (by have:=Av.2 hp;omega);have hl:=hb.1.2;rw[h0,oL]at hl;have hl:aa.lt (r6 pre) z=true:=by simpa using hl
 obtain⟨p,w,rfl⟩:∃p w,pre=p++[w]:=⟨pre.dropLast,pre.getLast hp,(List.dropLast_concat_getLast hp).symm⟩;rw[WI]at hl;rcases cM.1 hy with k|k
 ·exact H9 ((pd.1 h).2.2 y k w zS) hl
 ·obtain rfl:y=w:=by simpa using k
  exact hl
def ajU{seen pre rest:List aa}{x:aa}{e:Bool}(ha:ie pre)(hq:e=lg seen pre (x::rest))(h:Af seen pre x=true):e=false:=by rw[hq,Ny (by rw[bad_eq ha];exact h)]
def ajT{seen pre rest:List aa}{x:aa}{e:Bool}(ha:ie pre)(hq:e=lg seen pre (x::rest))(h:Af seen pre x=false):e=lg seen (pre++[x]) rest:=by rw[hq,Nx (by rw[bad_eq ha];exact h)]
theorem VS:∀(r seen pre:List aa),(seen++pre).Nodup->lg seen pre r=true->(seen++(pre++r)).Nodup
 |[],seen,pre,h,_=>by simpa using h
 |x::r,seen,pre,h,k=>by
  cases hb:((!isName x||(decide (0<(pre.length:Int))&&!aa.lt (r6 pre) x))||(seen++pre).any (fun y=>decide (y=x)))with
  |true=>rw[Ny hb]at k;cases k
  |false=>
   rw[Nx hb]at k;rw[cq]at hb;have hn:x∉seen++pre:=fun hm=>by
    have:=tM.1 hb.2 x hm;simp at this
   have h2:=VS r seen (pre++[x]) (by
    rw[<-ng];exact wG.2 ⟨h,by simp,fun a ha b hb=>by obtain rfl:b=x:=(by simpa using hb);rintro rfl;exact hn ha⟩) k
   simpa using h2
theorem VU:∀(r:List (List aa))(seen:List aa),seen.Nodup->pr seen r=true->(seen++r.flatten).Nodup
 |[],seen,h,_=>by simpa using h
 |g::r,seen,h,k=>by
  rw[pr]at k;split at k
  ·cases k
  ·split at k
   ·cases k
   ·rename_i _ hg;have hg:lg seen [] g=true:=by simpa using hg
    have h2:=VS g seen [] (by simpa using h) hg;rw[q_]at h2;have h3:=VU r (seen++g) h2 k;rw[fW,<-ng];exact h3
def aty{gs:List (List aa)}(h:nr gs=true):∃tl,gs=[]::tl/\tl.flatten.Nodup:=by
 unfold nr at h;split at h
 ·cases h
 ·rename_i k;have k:(decide ((gs.length:Int)=0)||decide (0<((gs.headD []).length:Int)))=false:=by simpa using k
  rw[cq,dY,dY]at k;cases gs with
  |nil=>exact absurd rfl k.1
  |cons a r=>
   have:a=[]:=cc.1 (by have:=k.2;simp only[List.headD_cons]at this;omega);subst this;exact⟨r,rfl,by simpa using VU r [] zS (by simpa using h)⟩
open Go.Proofs Go.Proofs.Tryz
structure atV(l:List aa)(s:aa)where
 pre:List aa
 rest:List aa
 done:Bool
 out:List aa
 hx:l=pre++rest
 hr:ir s l=out++qm done s rest
 ho:out.length<=pre.length+1
 HA:l.length<=1000000
def JM(l:List aa)(s:aa)(hl:l.length<=1000000):Fc prog 147 [bg l,.str s] (bg (iD l s)):=by
 refine ay func147 ntmps147 results147 ?_;refine go [15]<|br (fun h1=>?_) (fun h1=>?_)
 ·have hw:iD l s=l:=by unfold iD;rw[aV h1]
  exact af rfl (Sub.snap (by rw[hw]))
 ·have hw:iD l s=ir s l:=by unfold iD;rw[aF (by rw[h1];simp)]
  refine oP (t_ underlying48 sizeOf9)<|U.loop (ι:=atV l s) (fun sx=>[(0,bg l),(1,.str s),(5,.gs 0 sx.out.length),(6,.b sx.done),(7,.i sx.pre.length)]) (fun sx=>[(0,.arr 1 (cm sx.out))]) (fun sx=>sx.rest.length) ⟨[],l,false,[],rfl,rfl,by simp,hl⟩ ?_ ?_
  ·exact(Le.gC 0 1).trans<|Le.mk rfl (.n 2 rfl rfl (.cons rfl (Sub.yp _ _) rfl (.n 2 rfl rfl .nil))) (.arr rfl (by rfl) .nil)
  ·rintro⟨pre,rest,done,out,hx,hr,ho,HA⟩;dsimp only;rcases lc hx with⟨rfl,qM⟩|⟨x,rest,rfl,qM⟩
   ·refine go [15]<|aH (by simp at qM|-;omega)<|go [15]<|br (fun h2=>?_) (fun h2=>?_)
    ·refine oP (oQ underlying48 sizeOf9 zeroValue9 rfl rfl rfl rfl rfl)<|oW (ee 1 underlying48 underlying48 sizeOf9 typeInfo9 zeroValue9 rfl (bt:=16) rfl rfl rfl rfl zS rfl rfl zQ) ?_;refine U.bc (Le.freeze 5 1 rfl rfl zS) ?_;exact go []<|af rfl (Sub.snap (by rw[hw,hr,atg zA];simp[cm]))
    ·refine U.bc (Le.freeze 5 0 rfl rfl zS) ?_;exact go []<|af rfl (Sub.snap (by rw[hw,hr,ath zA];simp[cm]))
   ·refine go [15]<|aM zQ<|j9 (fun hg=>And.intro zO (aK (fun s=>[D.str s]) hx rfl))<|br (fun h3=>?_) (fun h3=>?_)
    ·refine ix zO (aK (fun s=>[D.str s]) hx rfl)<|br (fun h4=>?_) (fun h4=>?_)
     ·exact oP (oQ underlying48 sizeOf9 zeroValue9 rfl rfl rfl rfl rfl)<|oW (ee 1 underlying48 underlying48 sizeOf9 typeInfo9 zeroValue9 rfl (bt:=16) rfl rfl rfl rfl zS rfl rfl zQ)<|ix zO (aK (fun s=>[D.str s]) hx rfl)<|oP (oQ underlying48 sizeOf9 zeroValue9 rfl rfl rfl rfl rfl)<|oW (ee 2 underlying48 underlying48 sizeOf9 typeInfo9 zeroValue9 rfl (bt:=16) rfl rfl rfl rfl zS rfl rfl zQ)<|sd (ao zO)<|nx ⟨pre++[x],rest,true,out++[s]++[x],by simp[hx],by rw[hr,aaX h3 h4];simp,by have h8:=aT List.length hr;have h9:=H0 (s:=s) (l:=l);rw[aaX h3 h4]at h8;simp[qm]at h8|-;omega,HA⟩ zS ((Le.mk (aj:=[(2,_)]) rfl (show ct _ _ [(0,_),(1,_),(5,_),(6,_),(7,_)]from(.n 5 rfl rfl .nil)) (.cons (i:=2) rfl rfl .nil)).trans<|(Le.iz 5 2 0 rfl rfl zS rfl).trans<|Le.mk rfl (.n 2 rfl rfl (.cons rfl (Sub.gs zS) rfl (.s rfl rfl (.cons rfl (Sub.int zS) rfl .nil)))) (.arr rfl (by simp[cm]) .nil))
     ·exact ix zO (aK (fun s=>[D.str s]) hx rfl)<|oP (oQ underlying48 sizeOf9 zeroValue9 rfl rfl rfl rfl rfl)<|oW (ee 1 underlying48 underlying48 sizeOf9 typeInfo9 zeroValue9 rfl (bt:=16) rfl rfl rfl rfl zS rfl rfl zQ)<|sd (ao zO)<|nx ⟨pre++[x],rest,true,out++[x],by simp[hx],by rw[hr,ate h3 h4];simp,by simp;omega,HA⟩ zS ((Le.mk (aj:=[(1,_)]) rfl (show ct _ _ [(0,_),(1,_),(5,_),(6,_),(7,_)]from(.n 5 rfl rfl .nil)) (.cons (i:=1) rfl rfl .nil)).trans<|(Le.iz 5 1 0 rfl rfl zS rfl).trans<|Le.mk rfl (.n 2 rfl rfl (.cons rfl (Sub.gs zS) rfl (.s rfl rfl (.cons rfl (Sub.int zS) rfl .nil)))) (.arr rfl (by simp[cm]) .nil))
    ·exact ix zO (aK (fun s=>[D.str s]) hx rfl)<|oP (oQ underlying48 sizeOf9 zeroValue9 rfl rfl rfl rfl rfl)<|oW (ee 1 underlying48 underlying48 sizeOf9 typeInfo9 zeroValue9 rfl (bt:=16) rfl rfl rfl rfl zS rfl rfl zQ)<|sd (ao zO)<|nx ⟨pre++[x],rest,done,out++[x],by simp[hx],by rw[hr,atf h3];simp,by simp;omega,HA⟩ zS ((Le.mk (aj:=[(1,_)]) rfl (show ct _ _ [(0,_),(1,_),(5,_),(6,_),(7,_)]from(.n 5 rfl rfl .nil)) (.cons (i:=1) rfl rfl .nil)).trans<|(Le.iz 5 1 0 rfl rfl zS rfl).trans<|Le.mk rfl (.n 2 rfl rfl (.cons rfl (Sub.gs zS) rfl (.s rfl rfl (.cons rfl (Sub.int zS) rfl .nil)))) (.arr rfl (by simp[cm]) .nil))
structure Yd(f:Fact)where
 pre:List cY
 rest:List cY
 cur:List aa
 hx:f.opts=pre++rest
 hp:tP f=rest.foldl (fun l o=>iD l o.other) cur
 hc:cur.length<=2+pre.length
def Yc(f:Fact)(hn:f.opts.length<=100000):Fc prog 101 [.agg (aJ f)] (bg (b_ f)):=by
 refine ay func101 ntmps101 results101 ?_;refine go []<|oP (t_ underlying48 sizeOf9)<|oP (ah call147 rfl (JM [] f.dV zS).sub)<|br (fun h1=>?_) (fun h1=>?_)
 ·have hb:=anb (f:=f) h1;have hk:(iD (iD [] f.dV) f.other).length<=2:=by have h8:=Bo (l:=[]) (s:=f.dV);have h9:=Bo (l:=iD [] f.dV) (s:=f.other);simp only[hG]at h8;omega
  refine oP (ah call147 rfl (JM _ _ (by have h8:=Bo (l:=[]) (s:=f.dV);simp only[hG]at h8;omega)))<|U.loop (ι:=Yd f) (fun sx=>[(1,.box 0 0),(3,bg sx.cur),(4,.i sx.pre.length)]) (fun sx=>[(0,.cells (aJ f))]) (fun sx=>sx.rest.length) ⟨[],_,_,rfl,hb,by simpa using hk⟩ ?_ ?_
  ·exact Le.mk rfl (.n 3 rfl rfl .nil) (.cons rfl rfl .nil)
  ·rintro⟨pre,rest,cur,hx,hp,hc⟩;dsimp only;rcases lc hx with⟨rfl,qM⟩|⟨x,rest,rfl,qM⟩
   ·exact go []<|aH (by simp at qM|-;omega)<|go []<|af rfl (Sub.snap (by rw[<-Ye,hp];rfl))
   ·exact go []<|aM zQ<|ix zO (aK mF hx rfl)<|oP (ah call147 rfl (JM cur x.other zO))<|sd (ao zO)<|nx ⟨pre++[x],rest,iD cur x.other,by simp[hx],hp,by have h9:=Bo (l:=cur) (s:=x.other);simp;omega⟩ zS (Le.mk rfl (.n 2 rfl rfl (.cons rfl (Sub.int zS) rfl .nil)) (.cons rfl rfl .nil))
 ·have hb:=ana (f:=f) h1;have hk:(iD [] f.dV).length<=2:=by have h8:=Bo (l:=[]) (s:=f.dV);simp only[hG]at h8;omega
  refine U.loop (ι:=Yd f) (fun sx=>[(1,.box 0 0),(3,bg sx.cur),(4,.i sx.pre.length)]) (fun sx=>[(0,.cells (aJ f))]) (fun sx=>sx.rest.length) ⟨[],_,_,rfl,hb,by simpa using hk⟩ ?_ ?_
  ·exact Le.mk rfl (.n 3 rfl rfl .nil) (.cons rfl rfl .nil)
  ·rintro⟨pre,rest,cur,hx,hp,hc⟩;dsimp only;rcases lc hx with⟨rfl,qM⟩|⟨x,rest,rfl,qM⟩
   ·exact go []<|aH (by simp at qM|-;omega)<|go []<|af rfl (Sub.snap (by rw[<-Ye,hp];rfl))
   ·exact go []<|aM zQ<|ix zO (aK mF hx rfl)<|oP (ah call147 rfl (JM cur x.other zO))<|sd (ao zO)<|nx ⟨pre++[x],rest,iD cur x.other,by simp[hx],hp,by have h9:=Bo (l:=cur) (s:=x.other);simp;omega⟩ zS (Le.mk rfl (.n 2 rfl rfl (.cons rfl (Sub.int zS) rfl .nil)) (.cons rfl rfl .nil))
structure aiT(l:List aa)(s:aa)where
 pre:List aa
 rest:List aa
 hx:l=pre++rest
 hp:pre.any (fun y=>decide (y=s))=false
def Hh(l:List aa)(s:aa):Fc prog 73 [bg l,.str s] (.b (s8 l s)):=by
 refine ay func73 ntmps73 results73 ?_;refine U.eh 0 rfl (fun hb=>?_);simp only[bB,aD]at hb;refine go []<|U.loop (ι:=aiT l s) (fun sx=>[(0,bg l),(1,.str s),(5,.i sx.pre.length)]) (fun sx=>[]) (fun sx=>sx.rest.length) ⟨[],l,rfl,rfl⟩ ?_ ?_
 ·exact Le.mk rfl (.n 3 rfl rfl .nil) .nil
 ·rintro⟨pre,rest,hx,hp⟩;dsimp only;rcases lc hx with⟨rfl,hl⟩|⟨x,rest,rfl,hl⟩
  ·exact go []<|aH (by simp at hl|-;omega)<|go []<|af rfl (Sub.bool (by exact(oX hx hp).symm))
  ·refine go []<|aM zQ<|ix zO (aK (fun s=>[D.str s]) hx rfl)<|br (fun h1=>?_) (fun h1=>?_)
   ·exact af rfl (Sub.bool (by exact(oh hx h1).symm))
   ·exact sd (ao zO)<|nx ⟨pre++[x],rest,by simp[hx],jX hp h1⟩ zS (Le.mk rfl (.n 2 rfl rfl (.cons rfl (Sub.int zS) rfl .nil)) .nil)
structure akc(l:List aa)(s:aa)where
 pre:List aa
 rest:List aa
 hx:l=pre++rest
 hr:ir s l=pre++ir s rest
def HQ(l:List aa)(s:aa)(hl:l.length<=10000000):Fc prog 78 [bg l,.str s] (bg (ir s l)):=by
 refine ay func78 ntmps78 results78 ?_;refine U.seq<|rg<|.ag rfl rfl<|.nil<|U.seq<|rg<|.ag rfl rfl<|.nil<|U.seq<|U.block<|U.loop (ι:=akc l s) (fun sx=>[(0,bg l),(1,.str s),(5,.i sx.pre.length)]) (fun sx=>[]) (fun sx=>sx.rest.length) ⟨[],l,rfl,rfl⟩ ?_ ?_
 ·exact Le.mk rfl (.n 3 rfl rfl .nil) .nil
 ·rintro⟨pre,rest,hx,hr⟩;dsimp only;rcases lc hx with⟨rfl,qM⟩|⟨x,rest,rfl,qM⟩
  ·refine U.seq (U.seq (U.e_ [.p,.p,.p,.p,.p,.p,.p,.p,.p,.p,.p,.p] ?_));refine .mv rfl rfl<|.mv rfl rfl<|.P rfl (cv underlying48 rfl)<|.P rfl (bp rfl rfl)<|.mv rfl rfl<|.off rfl (gL rfl rfl rfl (by simp at*;omega))<|.off rfl (gL rfl rfl rfl (by simp at*;omega))<|.off rfl (gL rfl rfl rfl (by simp at*;omega))<|.off rfl (gL rfl rfl rfl (by simp at*;omega))<|.off rfl (gL rfl rfl rfl (by simp at*;omega))<|.off rfl (gL rfl rfl rfl (by simp at*;omega))<|.P rfl (zB rfl (by simp at*;omega) rfl)<|.nil<|U.c6 rfl rfl<|U.exit (dz (du ?_));refine U.seq (U.seq (U.e_ [.p,.p,.p,.p,.p,.p,.p,.p,.p,.p,.p,.p] ?_));refine .mv rfl rfl<|.mv rfl rfl<|.P rfl (cv underlying48 rfl)<|.P rfl (bp rfl rfl)<|.mv rfl rfl<|.off rfl (gL rfl rfl rfl (by simp at*;omega))<|.off rfl (gL rfl rfl rfl (by simp at*;omega))<|.off rfl (gL rfl rfl rfl (by simp at*;omega))<|.off rfl (gL rfl rfl rfl (by simp at*;omega))<|.off rfl (gL rfl rfl rfl (by simp at*;omega))<|.off rfl (gL rfl rfl rfl (by simp at*;omega))<|.P rfl (zB rfl (by simp at*;omega) rfl)<|.nil<|U.c6 rfl rfl<|U.skip<|U.seq (U.pE [.p,.p,.p,.p,.w,.p,.p,.w,.p,.p,.p,.w,.p] l7 zK ?_)
   refine .P rfl (t_ underlying48 sizeOf9)<|.mv rfl rfl<|.mv rfl rfl<|.P rfl (pC underlying48 sizeOf9 rfl (l:=0) (h:=pre.length) (r:=cm pre) (.inl ⟨rfl,rfl⟩) (.inr ⟨_,_,rfl,rfl⟩) zO (by simp[hx]) (by subst hx;simp[cm,<-Iz]))<|.W rfl (aq.gC 0 1 (t:=33) rfl (Sub.yp _ _) (ee 1 underlying48 underlying48 sizeOf9 typeInfo9 zeroValue9 rfl (bt:=16) rfl rfl rfl rfl rfl rfl rfl zQ))<|.mv rfl rfl<|.P rfl (oQ underlying48 sizeOf9 zeroValue9 rfl rfl rfl rfl rfl)<|.W rfl (ee 2 underlying48 underlying48 sizeOf9 typeInfo9 zeroValue9 rfl (bt:=16) rfl rfl rfl rfl zS rfl rfl zQ)<|.mv rfl rfl<|.mv rfl rfl<|.P rfl (pC underlying48 sizeOf9 rfl (l:=pre.length) (h:=l.length) (r:=cm (l.drop pre.length)) (.inr ⟨_,_,rfl,rfl⟩) (.inl ⟨rfl,by simp⟩) zO zS (by simp[cm,gZ]))<|.W rfl (ee 3 underlying48 underlying48 sizeOf9 typeInfo9 zeroValue9 rfl (bt:=16) rfl rfl rfl rfl zS rfl rfl zQ)<|.ag rfl rfl<|.nil ?_;refine U.bc (Le.freeze 4 3 rfl rfl zQ) ?_;refine U.ret (?_);exact dt rfl (Sub.snap (by rw[hr];simp[cm,hx,ir]))
  ·refine U.seq<|U.seq<|rg<|.mv rfl rfl<|.mv rfl rfl<|.P rfl (cv underlying48 rfl)<|.P rfl (bp rfl rfl)<|.mv rfl rfl<|.p rfl (e7 rfl rfl rfl zQ) (fun _=>aX rfl _)<|.p rfl (e7 rfl rfl rfl zQ) (fun _=>aX rfl _)<|.p rfl (e7 rfl rfl rfl zQ) (fun _=>eC underlying48 sizeOf9 rfl rfl zO (aK (fun s=>[D.str s]) hx rfl) _)<|.p rfl (e7 rfl rfl rfl zQ) (fun _=>bE isAgg9 rfl _)<|.p rfl (e7 rfl rfl rfl zQ) (fun _=>aX rfl _)<|.p rfl (e7 rfl rfl rfl zQ) (fun _=>ZM rfl rfl _)<|.P rfl (vI rfl zQ rfl)<|.nil<|U.cond rfl (fun h1=>?_) (fun h1=>?_)
   ·refine U.skip<|U.block<|rg<|.mv rfl rfl<|.P rfl (bx rfl rfl (ao zO))<|.ag rfl rfl<|.nil<|U.nil (bR ?_);refine U.nil (cz ?_);exact⟨⟨pre++[x],rest,by simp[hx],by rw[hr,ir,aV h1];simp⟩,by simp,Le.mk rfl (.n 2 rfl rfl (.cons rfl (Sub.int zS) rfl .nil)) .nil⟩
   ·refine U.exit (dz (du ?_));refine U.seq<|U.seq<|rg<|.mv rfl rfl<|.mv rfl rfl<|.P rfl (cv underlying48 rfl)<|.P rfl (bp rfl rfl)<|.mv rfl rfl<|.p rfl (e7 rfl rfl rfl zQ) (fun _=>aX rfl _)<|.p rfl (e7 rfl rfl rfl zQ) (fun _=>aX rfl _)<|.p rfl (e7 rfl rfl rfl zQ) (fun _=>eC underlying48 sizeOf9 rfl rfl zO (aK (fun s=>[D.str s]) hx rfl) _)<|.p rfl (e7 rfl rfl rfl zQ) (fun _=>bE isAgg9 rfl _)<|.p rfl (e7 rfl rfl rfl zQ) (fun _=>aX rfl _)<|.p rfl (e7 rfl rfl rfl zQ) (fun _=>Pt rfl rfl _)<|.P rfl (vI rfl zQ rfl)<|.nil<|U.cond rfl (fun h2=>?_) (fun h2=>?_)
    ·refine U.seq<|rg<|.mv rfl rfl<|.ag rfl rfl<|.nil<|U.ret (?_);exact dt rfl (Sub.snap (by rw[hr,ir,aF (by rw[h1];simp),aV h2,<-hx]))
    ·refine U.skip<|U.seq (U.pE [.p,.p,.p,.p,.w,.p,.p,.w,.p,.p,.p,.w,.p] l7 zK ?_);refine .P rfl (t_ underlying48 sizeOf9)<|.mv rfl rfl<|.mv rfl rfl<|.P rfl (pC underlying48 sizeOf9 rfl (l:=0) (h:=pre.length) (r:=cm pre) (.inl ⟨rfl,rfl⟩) (.inr ⟨_,_,rfl,rfl⟩) zO (by simp[hx]) (by subst hx;simp[cm,<-Iz]))<|.W rfl (aq.gC 0 1 (t:=33) rfl (Sub.yp _ _) (ee 1 underlying48 underlying48 sizeOf9 typeInfo9 zeroValue9 rfl (bt:=16) rfl rfl rfl rfl rfl rfl rfl zQ))<|.mv rfl rfl<|.P rfl (oQ underlying48 sizeOf9 zeroValue9 rfl rfl rfl rfl rfl)<|.W rfl (ee 2 underlying48 underlying48 sizeOf9 typeInfo9 zeroValue9 rfl (bt:=16) rfl rfl rfl rfl zS rfl rfl zQ)<|.mv rfl rfl<|.mv rfl rfl<|.P rfl (pC underlying48 sizeOf9 rfl (l:=pre.length) (h:=l.length) (r:=cm (l.drop pre.length)) (.inr ⟨_,_,rfl,rfl⟩) (.inl ⟨rfl,by simp⟩) zO zS (by simp[cm,gZ]))<|.W rfl (ee 3 underlying48 underlying48 sizeOf9 typeInfo9 zeroValue9 rfl (bt:=16) rfl rfl rfl rfl zS rfl rfl zQ)<|.ag rfl rfl<|.nil ?_;refine U.bc (Le.freeze 4 3 rfl rfl zQ) ?_;refine U.ret (?_);exact dt rfl (Sub.snap (by rw[hr,ir,aF (by rw[h1];simp),aF (by rw[h2];simp)];simp[cm,hx]))
structure akH(gs:List (List aa))(ns:List aa)where
 nY:List aa
 rp:List aa
 mS:ns=nY++rp
structure akI(gs:List (List aa))(ns:List aa)where
 pre:List (List aa)
 rest:List (List aa)
 hx:gs=pre++rest
structure akJ(gs:List (List aa))(ns:List aa)(pre:List (List aa))(x:List aa)where
 au:List aa
 az:List aa
 aN:x=au++az
structure akK(gs:List (List aa))(ns:List aa)(pre:List (List aa))(x:List aa)where
 zr:List aa
 Ch:List aa
 DT:x=zr++Ch
def Wh(gs:List (List aa))(ns:List aa)(hg:gs.flatten.length<=1000000)(bY:gs.length<=1000000)(hn:ns.length<=1000000):Fc prog 100 [dm gs,bg ns] (dm (lh gs ns)):=by
 refine ay func100 ntmps100 results100 ?_;refine go [23]<|U.loop (ι:=akH gs ns) (fun sx=>[(0,dm gs),(1,bg ns),(5,.raw (.slice none 0 0)),(6,bg (e5 [] sx.nY)),(7,.i sx.nY.length)]) (fun sx=>[]) (fun sx=>sx.rp.length) ⟨[],ns,rfl⟩ ?_ ?_
 ·exact Le.mk rfl (.n 3 rfl rfl (.cons rfl ((Sub.nil _ false).trans (Sub.snap zS)) rfl (.s rfl rfl .nil))) .nil
 ·rintro⟨nY,rp,mS⟩;dsimp only;rcases lc mS with⟨rfl,yG⟩|⟨x0,rp,rfl,yG⟩
  ·obtain rfl:ns=nY:=by simpa using mS
   refine go [23]<|aH zS<|go [23]<|U.loop (ι:=akI gs ns) (fun sx=>[(0,dm gs),(1,bg ns),(5,.gs 0 (jz sx.pre ns).length),(6,bg (iw sx.pre ns (e5 [] ns))),(8,.i sx.pre.length)]) (fun sx=>[(0,.arr 1 ((jz sx.pre ns).map (fun v:List aa=>[bg v])))]) (fun sx=>sx.rest.length) ⟨[],gs,rfl⟩ ?_ ?_
   ·exact(Le.gC 0 1).trans<|Le.mk rfl (.n 2 rfl rfl (.cons rfl (Sub.oz _) rfl (.cons rfl (Sub.refl _) rfl (.s rfl rfl .nil)))) (.arr rfl (by rfl) .nil)
   ·rintro⟨pre,rest,hx⟩;dsimp only;have hl:=aT List.length hx;simp only[bl]at hl;rcases rest with _|⟨x,rest⟩
    ·obtain rfl:gs=pre:=by simpa using hx
     have uS:(jz gs ns).length<=gs.length:=nw _ _;refine go [23]<|aH zS<|go [23]<|br (fun h1=>?_) (fun h1=>?_)
     ·refine oP (bK (n:=1) (rows:=[[bg (iw gs ns (e5 [] ns))]]) underlying43 sizeOf48 rfl rfl rfl zeroValue48 rfl rfl rfl rfl rfl rfl rfl)<|oW (ee 1 underlying43 underlying43 sizeOf48 typeInfo48 zeroValue48 rfl (bt:=24) rfl rfl rfl rfl zS rfl rfl (by have h9:=uS;simp at h9|-;omega)) ?_;refine U.bc (Le.freeze 5 1 rfl rfl zS) ?_;exact go []<|af rfl (Sub.snap (by unfold lh;(rw[aV (by have h9:=h1;rw[bB]at h9;exact h9)];simp;done)))
     ·refine U.bc (Le.freeze 5 0 rfl rfl zS) ?_;exact go []<|af rfl (Sub.snap (by unfold lh;(rw[aF (by have h9:=h1;rw[bB]at h9;rw[h9];simp)];simp;done)))
    ·simp only[bD]at hl;have uS:(jz pre ns).length<=pre.length:=nw _ _;have Vu:=H2 ns pre (e5 [] ns);have A0:=yZ (ns:=ns) (one:=[]);have jd:gs.flatten.length=pre.flatten.length+(x.length+rest.flatten.length):=by rw[hx];simp
     simp only[hG]at A0;refine go [23]<|aM zQ<|U.loop (ι:=akJ gs ns pre x) (fun sx=>[(0,dm gs),(1,bg ns),(5,.gs 0 (jz pre ns).length),(6,bg (iw pre ns (e5 [] ns))),(8,.i pre.length),(9,.b (mZ ns sx.au)),(10,.i sx.au.length)]) (fun sx=>[(0,.arr 1 ((jz pre ns).map (fun v:List aa=>[bg v])))]) (fun sx=>sx.az.length) ⟨[],x,rfl⟩ ?_ ?_
     ·exact Le.mk rfl (.n 2 rfl rfl (.cons rfl (Sub.gs zS) rfl (.n 4 rfl rfl .nil))) (.arr rfl zS .nil)
     ·rintro⟨au,az,aN⟩;dsimp only;have bM:=aT List.length aN;simp only[bl]at bM;rcases az with _|⟨x2,az⟩
      ·obtain rfl:x=au:=by simpa using aN
       refine go [23]<|ix zO (aK (fun v:List aa=>[bg v]) hx rfl)<|aH zS<|go [23]<|br (fun h2=>?_) (fun h2=>?_)
       ·exact ix zO (aK (fun v:List aa=>[bg v]) hx rfl)<|oP (bK (n:=1) (rows:=[[bg x]]) underlying43 sizeOf48 rfl rfl rfl zeroValue48 rfl rfl rfl rfl rfl rfl rfl)<|oW (ee 1 underlying43 underlying43 sizeOf48 typeInfo48 zeroValue48 rfl (bt:=24) rfl rfl rfl rfl zS rfl rfl (by have h9:=uS;simp at h9|-;omega))<|go [23]<|sd (ao zO)<|nx ⟨pre++[x],rest,by simp[hx]⟩ zS ((Le.mk (aj:=[(1,_)]) rfl (show ct _ _ [(0,_),(1,_),(5,_),(6,_),(8,_)]from(.n 5 rfl rfl .nil)) (.cons (i:=1) rfl rfl .nil)).trans<|(Le.iz 5 1 0 rfl rfl zS rfl).trans<|Le.mk rfl (.n 2 rfl rfl (.cons rfl (Sub.gs (by rw[Wm (by simpa using h2)];simp)) rfl (.cons rfl (Sub.snap (by rw[anT (by simpa using h2)])) rfl (.cons rfl (Sub.int zS) rfl .nil)))) (.arr rfl (by rw[Wm (by simpa using h2)];simp) .nil))
       ·refine U.loop (ι:=akK gs ns pre x) (fun sx=>[(0,dm gs),(1,bg ns),(5,.gs 0 (jz pre ns).length),(6,bg (e5 (iw pre ns (e5 [] ns)) sx.zr)),(8,.i pre.length),(11,.i sx.zr.length)]) (fun sx=>[(0,.arr 1 ((jz pre ns).map (fun v:List aa=>[bg v])))]) (fun sx=>sx.Ch.length) ⟨[],x,rfl⟩ ?_ ?_
        ·exact Le.mk rfl (.n 2 rfl rfl (.cons rfl (Sub.gs zS) rfl (.cons rfl (Sub.refl _) rfl (.n 2 rfl rfl .nil)))) (.arr rfl zS .nil)
        ·rintro⟨zr,Ch,DT⟩;dsimp only;have A2:=aT List.length DT;simp only[bl]at A2;rcases Ch with _|⟨x3,Ch⟩
         ·have ajM:x=zr:=by simpa using DT
          refine go [23]<|ix zO (aK (fun v:List aa=>[bg v]) hx rfl)<|aH (by simp at A2|-;omega)<|U.nil (bR (id:=0) (Q:=fun _ _ _=>False) ?_);exact go [23]<|sd (ao zO)<|nx ⟨pre++[x],rest,by simp[hx]⟩ zS (Le.mk rfl (.n 2 rfl rfl (.cons rfl (Sub.gs (by rw[Wn (by simpa using h2)])) rfl (.cons rfl (Sub.snap (by rw[anU (by simpa using h2),<-ajM])) rfl (.cons rfl (Sub.int zS) rfl .nil)))) (.arr rfl (by rw[Wn (by simpa using h2)]) .nil))
         ·simp only[bD]at A2;exact go [23]<|ix zO (aK (fun v:List aa=>[bg v]) hx rfl)<|aM zQ<|ix zO (aK (fun v:List aa=>[bg v]) hx rfl)<|ix zO (aK (fun s=>[D.str s]) DT rfl)<|oP (ah call78 rfl (HQ _ x3 (by have h9:=yZ (ns:=zr) (one:=(iw pre ns (e5 [] ns)));omega)))<|sd (ao zO)<|nx ⟨zr++[x3],Ch,by simp[DT]⟩ zS (Le.mk rfl (.n 2 rfl rfl (.cons rfl (Sub.gs zS) rfl (.cons rfl (Sub.snap (by rw[HP])) rfl (.s rfl rfl (.cons rfl (Sub.int zS) rfl .nil))))) (.arr rfl zS .nil))
      ·simp only[bD]at bM;exact go [23]<|ix zO (aK (fun v:List aa=>[bg v]) hx rfl)<|aM zQ<|j9 (fun hg=>And.intro zO (aK (fun v:List aa=>[bg v]) hx rfl))<|j9 (fun hg=>And.intro zO (aK (fun s=>[D.str s]) aN rfl))<|gP (fun hg=>ah call73 rfl (Hh _ _))<|sd (ao zO)<|nx ⟨au++[x2],az,by simp[aN]⟩ zS (Le.mk rfl (.n 2 rfl rfl (.cons rfl (Sub.gs zS) rfl (.n 2 rfl rfl (.cons rfl (Sub.bool (by simp[mZ])) rfl (.cons rfl (Sub.int zS) rfl .nil))))) (.arr rfl zS .nil))
  ·exact go [23]<|aM zQ<|ix zO (aK (fun s=>[D.str s]) mS rfl)<|oP (ah call78 rfl (HQ _ x0 (by have h9:=yZ (ns:=nY) (one:=[]);simp only[hG]at h9;omega)))<|sd (ao zO)<|nx ⟨nY++[x0],rp,by simp[mS]⟩ zS (Le.mk rfl (.n 3 rfl rfl (.cons rfl (Sub.snap (by rw[HP])) rfl (.cons rfl (Sub.int zS) rfl .nil))) .nil)
def DU{l pre rest:List aS}{x:aS}{n:Int}(h:l=pre++x::rest)(hn:n=(pre.length:Int)):(l.map iS)[n.toNat]?=some [D.str x.id,.i x.kind,.str x.cur,.i x.places,.i x.yU,.i x.tH,.str x.gp.num,.str x.gp.den,.str x.gn.num,.str x.gn.den,.i x.r_,.i x.count,.str x.other,.str x.fY.num,.str x.fY.den]:=aK iS h hn
def tq{l pre rest:List Fact}{f:Fact}{n:Int}(h:l=pre++f::rest)(hn:n=(pre.length:Int)):(l.map aJ)[n.toNat]?=some [D.str f.key,.i f.iB,.b f.cancelled,.i f.day,.i f.kind,.str f.dV,.str f.other,.str f.cur,.str f.target,.str f.dc,.str f.l9,.str f.mb,.str f.dn.num,.str f.dn.den,.str f.ratio.num,.str f.ratio.den,.str f.share.num,.str f.share.den,ru f.fF,qk f.opts,.i f.choice]:=aK aJ h hn
def zP(x:aS):Prop:=jQ x.gp/\jQ x.gn/\jQ x.fY
structure ary(l:List bL)where
 pre:List bL
 rest:List bL
 hx:l=pre++rest
 iq:l.length<=16
 hp:mC [] l=mC pre rest
structure arz(l:List bL)(pre:List bL)(x:bL)where
 au:List bL
 az:List bL
 aN:pre=au++az
 hq:au.any (fun y=>decide (y.code=x.code))=false
def arx(l:List bL):Fc prog 133 [kh l] (.i (mB l)):=by
 refine ay func133 ntmps133 results133 ?_;refine U.eh 0 rfl (fun hb=>?_);simp only[bB,aD]at hb;refine go []<|br (fun h1=>?_) (fun h1=>?_)
 ·exact af rfl (Sub.int (by unfold mB;rw[aV (by have h9:=h1;simp at h9;omega)]))
 ·refine U.loop (ι:=ary l) (fun sx=>[(0,kh l),(3,.i sx.pre.length)]) (fun sx=>[]) (fun sx=>sx.rest.length) ⟨[],l,rfl,by have h9:=h1;simp at h9;omega,rfl⟩ ?_ ?_
  ·exact Le.mk rfl (.n 2 rfl rfl .nil) .nil
  ·rintro⟨pre,rest,hx,iq,hp⟩;dsimp only;rcases lc hx with⟨rfl,hl⟩|⟨x,rest,rfl,hl⟩
   ·have oB:mB l=0:=by rw[show(0:Int)=mC pre []from rfl,<-hp];unfold mB;rw[aF zO]
    exact go []<|aH (by simp at hl|-;omega)<|go []<|af rfl (Sub.int (by exact oB.symm))
   ·have oB:mB l=mC pre (x::rest):=by rw[<-hp];unfold mB;rw[aF zO]
    refine go []<|aM zQ<|ix zO (aK nG hx rfl)<|oP (ah call189 rfl (ad4 _))<|br (fun h2=>?_) (fun h2=>?_)
    ·exact af rfl (Sub.int (by exact Aj oB (RT h2) zD))
    ·refine ix zO (aK nG hx rfl)<|j9 (fun hg=>And.intro zO (aK nG hx rfl))<|br (fun h3=>?_) (fun h3=>?_)
     ·exact af rfl (Sub.int (by exact Aj oB (RU h2 h3) zD))
     ·refine U.loop (ι:=arz l pre x) (fun sx=>[(0,kh l),(3,.i pre.length),(4,.i sx.au.length)]) (fun sx=>[]) (fun sx=>sx.az.length) ⟨[],pre,rfl,rfl⟩ ?_ ?_
      ·exact Le.mk rfl (.n 3 rfl rfl .nil) .nil
      ·rintro⟨au,az,aN,hq⟩;dsimp only;rcases lc aN with⟨rfl,bM⟩|⟨y,az,rfl,bM⟩
       ·have HI:pre.any (fun y=>decide (y.code=x.code))=false:=by rw[aN,iJ];exact hq
        refine go []<|aH (by simp at bM|-;omega)<|U.nil (bR ?_);exact go []<|sd (ao zO)<|nx ⟨pre++[x],rest,by simp[hx],iq,Rw hp (aeB h2 h3 HI)⟩ zS (Le.mk rfl (.s rfl rfl (.cons rfl (Sub.int zS) rfl .nil)) .nil)
       ·refine go []<|aM zQ<|ix zO (aK nG (amK hx aN) rfl)<|ix zO (aK nG hx rfl)<|ord<|br (fun h4=>?_) (fun h4=>?_)
        ·exact af rfl (Sub.int (by exact Aj oB (aeC h2 h3 (by rw[aN,pH,pJ];simp at*;grind)) zD))
        ·exact sd (ao zO)<|nx ⟨au++[y],az,by simp[aN],by rw[pH,hq];simpa using h4⟩ zS (Le.mk rfl (.n 2 rfl rfl (.cons rfl (Sub.int zS) rfl .nil)) .nil)
structure ahm(l:List aS)(id:aa)where
 pre:List aS
 rest:List aS
 hx:l=pre++rest
 hp:pre.any (fun y=>decide (y.id=id))=false
def TC(l:List aS)(id:aa):Fc prog 113 [n_ l,.str id] (.a_ [.i (max (fw (fun y=>decide (y.id=id)) l) 0),.b (l.any (fun y=>decide (y.id=id)))]):=by
 refine gq func113 ntmps113 results113 ?_;refine U.eh 0 rfl (fun hb=>?_);simp only[bB,aD]at hb;refine go []<|U.loop (ι:=ahm l id) (fun sx=>[(0,n_ l),(1,.str id),(6,.i sx.pre.length)]) (fun sx=>[]) (fun sx=>sx.rest.length) ⟨[],l,rfl,rfl⟩ ?_ ?_
 ·exact Le.mk rfl (.n 3 rfl rfl .nil) .nil
 ·rintro⟨pre,rest,hx,hp⟩;dsimp only;rcases lc hx with⟨rfl,hl⟩|⟨x,rest,rfl,hl⟩
  ·exact go []<|aH (by simp at hl|-;omega)<|go []<|cw rfl rfl (Sub.int (by exact ahu hx hp)) (Sub.bool (by exact(oX hx hp).symm))
  ·refine go []<|aM zQ<|ix zO (aK iS hx rfl)<|br (fun h1=>?_) (fun h1=>?_)
   ·exact cw rfl rfl (Sub.int (by exact ahv hx hp h1)) (Sub.bool (by exact(oh hx h1).symm))
   ·exact sd (ao zO)<|nx ⟨pre++[x],rest,by simp[hx],jX hp h1⟩ zS (Le.mk rfl (.n 2 rfl rfl (.cons rfl (Sub.int zS) rfl .nil)) .nil)
structure aiS(t:List bL)(c:aa)where
 pre:List bL
 rest:List bL
 hx:t=pre++rest
 hp:pre.any (fun y=>decide (y.code=c))=false
def UH(t:List bL)(c:aa):Fc prog 135 [kh t,.str c] (.b (wN t c)):=by
 refine ay func135 ntmps135 results135 ?_;refine U.eh 0 rfl (fun hb=>?_);simp only[bB,aD]at hb;refine go []<|U.loop (ι:=aiS t c) (fun sx=>[(0,kh t),(1,.str c),(5,.i sx.pre.length)]) (fun sx=>[]) (fun sx=>sx.rest.length) ⟨[],t,rfl,rfl⟩ ?_ ?_
 ·exact Le.mk rfl (.n 3 rfl rfl .nil) .nil
 ·rintro⟨pre,rest,hx,hp⟩;dsimp only;rcases lc hx with⟨rfl,hl⟩|⟨x,rest,rfl,hl⟩
  ·exact go []<|aH (by simp at hl|-;omega)<|go []<|af rfl (Sub.bool (by exact(oX hx hp).symm))
  ·refine go []<|aM zQ<|ix zO (aK nG hx rfl)<|br (fun h1=>?_) (fun h1=>?_)
   ·exact af rfl (Sub.bool (by exact(oh hx h1).symm))
   ·exact sd (ao zO)<|nx ⟨pre++[x],rest,by simp[hx],jX hp h1⟩ zS (Le.mk rfl (.n 2 rfl rfl (.cons rfl (Sub.int zS) rfl .nil)) .nil)
def ahl(l:List aS)(id:aa):∃(k:Int) (q:Bool),k=max (fw (fun y=>decide (y.id=id)) l) 0/\Fc prog 113 [n_ l,.str id] (.a_ [.i k,.b q]):=⟨_,_,rfl,TC l id⟩
structure ake(i:aS)where
 pre:List aO
 rest:List aO
 hx:[i.gp,i.gn,i.fY]=pre++rest
 hp:rZ i=jB (Bl i) rest
def akd(i:aS)(hi:zP i):Fc prog 134 [.agg (iS i)] (.i (rZ i)):=by
 refine ay func134 ntmps134 results134 ?_;have hi1:=hi.1;have hi2:=hi.2.1;have hi3:=hi.2.2;refine go []<|oP (ah call94 rfl (za _))<|br (fun h1=>?_) (fun h1=>?_)
 ·exact af rfl (Sub.int (by unfold rZ;exact iT h1))
 ·refine br (fun h2=>?_) (fun h2=>?_)
  ·exact af rfl (Sub.int (by(unfold rZ;exact iF h1 (iT h2))))
  ·refine oP (ah call139 rfl (F9 _))<|br (fun h3=>?_) (fun h3=>?_)
   ·exact af rfl (Sub.int (by(unfold rZ;exact iF h1 (iF h2 (iT h3)))))
   ·refine br (fun h4=>?_) (fun h4=>?_)
    ·exact af rfl (Sub.int (by(unfold rZ;exact iF h1 (iF h2 (iF h3 (iT h4))))))
    ·refine oP (ah call96 rfl (KP _))<|br (fun h5=>?_) (fun h5=>?_)
     ·exact af rfl (Sub.int (by(unfold rZ;exact iF h1 (iF h2 (iF h3 (iF h4 (iT h5)))))))
     ·refine gP (fun hg=>ah call96 rfl (KP _))<|br (fun h6=>?_) (fun h6=>?_)
      ·exact af rfl (Sub.int (by(unfold rZ;exact iF h1 (iF h2 (iF h3 (iF h4 (iF h5 (iT h6))))))))
      ·refine oP (bK (n:=3) (rows:=[cK i.gp,cK i.gn,cK i.fY]) underlying116 sizeOf35 rfl rfl rfl zeroValue35 rfl rfl rfl rfl rfl rfl rfl)<|U.loop (ι:=ake i) (fun sx=>[(1,.box 0 0),(4,.snap 2 true ([i.gp,i.gn,i.fY].map cK)),(5,.i sx.pre.length)]) (fun sx=>[(0,.cells (iS i))]) (fun sx=>sx.rest.length) ⟨[],_,rfl,by unfold rZ;exact(iF h1 (iF h2 (iF h3 (iF h4 (iF h5 (iF h6 rfl)))))).symm⟩ ?_ ?_
       ·exact Le.mk rfl (.n 3 rfl rfl .nil) (.cons rfl rfl .nil)
       ·rintro⟨pre,rest,hx,hp⟩;dsimp only;have hl:=aT List.length hx;simp only[bl,bD,hG]at hl;rcases rest with _|⟨x,rest⟩
        ·refine go []<|aH (by simp at hl|-;omega)<|go []<|br (fun h7=>?_) (fun h7=>?_)
         ·refine oP (ah call191 rfl (zI _ zA))<|gP (fun hg=>ah call191 rfl (zI _ zA))<|br (fun h8=>?_) (fun h8=>?_)
          ·exact af rfl (Sub.int (by exact tN hp (fI h7 (iT h8))))
          ·refine gP (fun hg=>oS (xs:=[i.fY.num,i.fY.den]) (ys:=[[],[]]) underlying35 LW LW (.cons zK underlying33 isAgg33 rfl (.cons zK underlying33 isAgg33 rfl (.nil _))) rfl rfl rfl rfl rfl rfl)<|br (fun h9=>?_) (fun h9=>?_)
           ·exact af rfl (Sub.int (by exact tN hp (fI h7 (iF h8 (iT h9)))))
           ·exact af rfl (Sub.int (by exact tN hp (fI h7 (iF h8 (iF h9 rfl)))))
         ·refine br (fun cB=>?_) (fun cB=>?_)
          ·refine oP (ah call139 rfl (F9 _))<|br (fun cD=>?_) (fun cD=>?_)
           ·exact af rfl (Sub.int (by exact tN hp (iF h7 (fI cB (iT cD)))))
           ·refine oP (ah call191 rfl (zI _ zA))<|br (fun cW=>?_) (fun cW=>?_)
            ·exact af rfl (Sub.int (by exact tN hp (iF h7 (fI cB (iF cD (iT cW))))))
            ·refine oP (oS (xs:=[i.gp.num,i.gp.den]) (ys:=[[],[]]) underlying35 LW LW (.cons zK underlying33 isAgg33 rfl (.cons zK underlying33 isAgg33 rfl (.nil _))) rfl rfl rfl rfl rfl rfl)<|gP (fun hg=>oS (xs:=[i.gn.num,i.gn.den]) (ys:=[[],[]]) underlying35 LW LW (.cons zK underlying33 isAgg33 rfl (.cons zK underlying33 isAgg33 rfl (.nil _))) rfl rfl rfl rfl rfl rfl)<|br (fun fy=>?_) (fun fy=>?_)
             ·exact af rfl (Sub.int (by exact tN hp (iF h7 (fI cB (iF cD (iF cW (iT fy)))))))
             ·exact af rfl (Sub.int (by exact tN hp (iF h7 (fI cB (iF cD (iF cW (iF fy rfl)))))))
          ·refine gP (fun hg=>oS (xs:=[i.fY.num,i.fY.den]) (ys:=[[],[]]) underlying35 LW LW (.cons zK underlying33 isAgg33 rfl (.cons zK underlying33 isAgg33 rfl (.nil _))) rfl rfl rfl rfl rfl rfl)<|br (fun j3=>?_) (fun j3=>?_)
           ·exact af rfl (Sub.int (by exact tN hp (iF h7 (iF cB (iT j3)))))
           ·refine oP (oS (xs:=[i.gp.num,i.gp.den]) (ys:=[[],[]]) underlying35 LW LW (.cons zK underlying33 isAgg33 rfl (.cons zK underlying33 isAgg33 rfl (.nil _))) rfl rfl rfl rfl rfl rfl)<|gP (fun hg=>oS (xs:=[i.gn.num,i.gn.den]) (ys:=[[],[]]) underlying35 LW LW (.cons zK underlying33 isAgg33 rfl (.cons zK underlying33 isAgg33 rfl (.nil _))) rfl rfl rfl rfl rfl rfl)<|br (fun kY=>?_) (fun kY=>?_)
            ·exact af rfl (Sub.int (by exact tN hp (iF h7 (iF cB (iF j3 (iT kY))))))
            ·exact af rfl (Sub.int (by exact tN hp (iF h7 (iF cB (iF j3 (iF kY rfl))))))
        ·simp only[bD]at hl;have k9:=Ol hx;refine go []<|aM zQ<|ix zO (aK cK hx rfl)<|oP (ah call190 rfl (Yu x (by rcases k9 with rfl|rfl|rfl<;>assumption)))<|br (fun iq=>?_) (fun iq=>?_)
         ·exact af rfl (Sub.int (by exact am7 hp iq))
         ·exact sd (ao zO)<|nx ⟨pre++[x],rest,by simp[hx],am6 hp iq⟩ zS (Le.mk rfl (.n 2 rfl rfl (.cons rfl (Sub.int zS) rfl .nil)) (.cons rfl rfl .nil))
def adw(i:aS)(hi:zP i):Fc prog 134 [.agg (iS i)] (.i (jL i)):=by
 have:=akd i hi;rwa[akh]at this
structure acj(l:List aS)(t:List bL)where
 pre:List aS
 rest:List aS
 hx:l=pre++rest
 hp:lH l t=qU t pre rest
def aci(l:List aS)(t:List bL)(hs:∀x∈l,zP x):Fc prog 93 [n_ l,kh t] (.i (lH l t)):=by
 refine ay func93 ntmps93 results93 ?_;refine U.eh 0 rfl (fun hb=>?_);simp only[bB,aD]at hb;refine go []<|oP (ah call133 rfl (arx _))<|br (fun h1=>?_) (fun h1=>?_)
 ·exact af rfl (Sub.int (by exact jy h1))
 ·refine br (fun h2=>?_) (fun h2=>?_)
  ·exact af rfl (Sub.int (by exact dF h1 (jy (by simpa using h2))))
  ·refine U.loop (ι:=acj l t) (fun sx=>[(0,n_ l),(1,kh t),(5,.i sx.pre.length)]) (fun sx=>[]) (fun sx=>sx.rest.length) ⟨[],l,rfl,V' h1 (by simpa using h2)⟩ ?_ ?_
   ·exact Le.mk rfl (.n 3 rfl rfl .nil) .nil
   ·rintro⟨pre,rest,hx,hp⟩;dsimp only;rcases lc hx with⟨rfl,hl⟩|⟨x,rest,rfl,hl⟩
    ·exact go []<|aH (by simp at hl|-;omega)<|go []<|af rfl (Sub.int (by exact hp.symm))
    ·refine go []<|aM zQ<|ix zO (aK iS hx rfl)<|oP (ah call134 rfl (adw x (hs x (by rw[hx];simp))))<|br (fun h3=>?_) (fun h3=>?_)
     ·exact af rfl (Sub.int (by exact Bi hp (VZ h3) h3))
     ·obtain⟨k,q,hk,hfc⟩:=ahl l x.id;refine ix zO (DU hx rfl)<|oP (ah call113 rfl hfc)<|br (fun h4=>?_) (fun h4=>?_)
      ·exact af rfl (Sub.int (by exact Bi hp (V0 h3 (by rw[<-LQ hx,<-hk];exact h4)) rfl))
      ·refine ix zO (DU hx rfl)<|oP (ah call135 rfl (UH _ _))<|j9 (fun hg=>And.intro zO (DU hx rfl))<|j9 (fun hg=>And.intro zO (DU hx rfl))<|gP (fun hg=>ah call135 rfl (UH _ _))<|br (fun h5=>?_) (fun h5=>?_)
       ·exact af rfl (Sub.int (by exact Bi hp (aki h3 (by rw[<-LQ hx,<-hk];exact h4) h5) rfl))
       ·exact sd (ao zO)<|nx ⟨pre++[x],rest,by simp[hx],Wa hp (akj h3 (by rw[<-LQ hx,<-hk];exact h4) h5) rfl⟩ zS (Le.mk rfl (.n 2 rfl rfl (.cons rfl (Sub.int zS) rfl .nil)) .nil)
def aa9(s:Setup)(hs:∀x∈s.insts,zP x):Fc prog 52 [.agg (im s)] (.b (decide (lH s.insts s.o7=0))):=by
 refine ay func52 ntmps52 results52 ?_;exact go []<|oP (ah call93 rfl (aci s.insts s.o7 hs))<|af rfl (Sub.refl _)
def L7{gs:List (List aa)}{k:Nat}{n:Int}(h:k<gs.length)(hn:n=(k:Int)):(gs.map (fun v:List aa=>[bg v]))[n.toNat]?=some [bg (gs.getD k [])]:=by
 subst hn;simp[fV,h]
def MK{l:List aa}(h:l≠[]):(l.map fun s=>[D.str s])[(0:Int).toNat]?=some [D.str (l.headD [])]:=by
 cases l with
 |nil=>exact absurd rfl h
 |cons a r=>rfl
def T8{gs:List (List aa)}{k:Nat}(h:k<gs.length):gs.getD k []∈gs:=by
 rw[getD_at h];exact CD h
def R4{l:List Fact}{x:Fact}{k:aa}(h:decide (x.key=k)=true):fe (l++[x]) k=fe l k++b_ x:=by rw[KQ,aV (aG h)]
def R2{l:List Fact}{x:Fact}{k:aa}(h:decide (x.key=k)=false):fe (l++[x]) k=fe l k:=by rw[KQ,aF (by simpa using h)];simp
structure pP(s:Setup)(l:List Fact):Prop where
 insts:s.insts.length<=1000
 facts:l.length<=20
 opts:∀f∈l,f.opts.length<=1000
def pP.names{s:Setup}{l:List Fact}(h:pP s l){l':List Fact}(hl:l'.length<=l.length)(hm:∀f∈l',f∈l)(k:aa):(fe l' k).length<=20040:=by
 have h1:=R3 (n:=1002) l' k fun f hf=>by have h2:=yT f;have h3:=h.opts f (hm f hf);omega
 have h2:=h.facts;omega
def pP.V_{s:Setup}{l:List Fact}(h:pP s l){p:List aS}(hl:p.length<=s.insts.length):(mU p).flatten.length<=1000/\(mU p).length<=1000:=by
 have h1:=ako p;have h2:=h.insts;omega
def pP.Te{s:Setup}{l:List Fact}(h:pP s l){p:List Fact}(hl:p.length<=l.length):(mG l p (mU s.insts)).flatten.length<=500000/\(mG l p (mU s.insts)).length<=500000:=by
 have h1:=h.V_ (p:=s.insts) (dP _);have h2:=Tc (n:=20040) (fun k=>h.names (dP _) (fun f hf=>hf) k) p (mU s.insts);have h3:=h.facts;omega
structure afK(s:Setup)(l:List Fact)where
 nY:List aS
 rp:List aS
 mS:s.insts=nY++rp
structure afL(s:Setup)(l:List Fact)where
 pre:List Fact
 rest:List Fact
 hx:l=pre++rest
structure afN(s:Setup)(l:List Fact)where
 out:List (List aa)
 cur:List (List aa)
 hs:uk (He s l) out cur
 ME:∀b∈cur,b≠[]
structure afO(s:Setup)(l:List Fact)(out cur:List (List aa))where
 k:Nat
 n:Nat
 hk:k<cur.length
 hn:n<=cur.length
 hm:wh cur k n
structure afM(s:Setup)(l:List Fact)(pre:List Fact)(x:Fact)where
 au:List Fact
 az:List Fact
 aN:l=au++az
def afJ(s:Setup)(l:List Fact)(hd:pP s l):Fc prog 54 [.agg (im s),aQ l] (wD (gJ (fa s l))):=by
 refine ay func54 ntmps54 results54 ?_;have hdf:=hd.facts;have wQ:=hd.insts;refine go [15,25,26]<|U.loop (ι:=afK s l) (fun sx=>[(1,aQ l),(2,.box 0 0),(5,dm (mU sx.nY)),(6,.i sx.nY.length)]) (fun sx=>[(0,.cells (im s))]) (fun sx=>sx.rp.length) ⟨[],_,rfl⟩ ?_ ?_
 ·exact Le.mk rfl (.n 2 rfl rfl (.cons rfl ((Sub.nil _ false).trans (Sub.snap zS)) rfl (.s rfl rfl .nil))) (.cons rfl rfl .nil)
 ·rintro⟨nY,rp,mS⟩;dsimp only;have yG:=aT List.length mS;simp only[bl]at yG;have hib:=hd.V_ (p:=nY) zO;rcases rp with _|⟨x0,rp⟩
  ·obtain rfl:s.insts=nY:=by simpa using mS
   refine go [15,25,26]<|aH zS<|go [15,25,26]<|U.loop (ι:=afL s l) (fun sx=>[(1,aQ l),(2,.box 0 0),(5,dm (mG l sx.pre (mU s.insts))),(7,.i sx.pre.length)]) (fun sx=>[(0,.cells (im s))]) (fun sx=>sx.rest.length) ⟨[],l,rfl⟩ ?_ ?_
   ·exact Le.mk rfl (.n 2 rfl rfl (.cons rfl (Sub.refl _) rfl (.s rfl rfl .nil))) (.cons rfl rfl .nil)
   ·rintro⟨pre,rest,hx⟩;dsimp only;have hl:=aT List.length hx;simp only[bl]at hl;have Ht:=hd.Te (p:=pre) zO;rcases rest with _|⟨x,rest⟩
    ·obtain rfl:l=pre:=by simpa using hx
     refine go [15,25,26]<|aH zS<|go [15,25,26]<|oW (I9 (n:=1) (rows:=[[.raw (.slice none 0 0)]]) 2 underlying43 sizeOf48 rfl rfl rfl zeroValue48 rfl rfl rfl rfl rfl rfl rfl rfl)<|U.loop (ι:=afN s l) (fun sx=>[(5,dm sx.cur),(10,.gs 2 (sx.out.length+1))]) (fun sx=>[(2,.arr 1 ([.raw (.slice none 0 0)]::sx.out.map (fun v:List aa=>[bg v])))]) (fun sx=>sx.cur.length) ⟨[],_,aag _,aah (aag _) (Mj s l)⟩ ?_ ?_
     ·exact Le.mk rfl (.cons rfl (Sub.refl _) rfl (.cons rfl (Sub.gs zS) rfl .nil)) (.arr rfl (by rfl) .nil)
     ·rintro⟨out,cur,hs,ME⟩;dsimp only;have A_:=aqE hs;have bY:(He s l).length<=500000:=(hd.Te (p:=l) (dP _)).2;rcases ko cur.length with Hk|Hk
      ·obtain rfl:=cc.1 Hk;refine go [15,25,26]<|aH zS<|go [15,25,26] ?_;refine U.bc (Le.freeze 10 2 rfl rfl zS) ?_;exact go [15,25]<|af rfl (Sub.snap (by(have e9:=aqD hs;have e8:=(List.cons.inj e9).2;rw[<-e8])))
      ·refine go [15,25,26]<|aM zQ<|U.loop (ι:=afO s l out cur) (fun sx=>[(5,dm cur),(10,.gs 2 (out.length+1)),(11,.i sx.k),(12,.i sx.n)]) (fun sx=>[(2,.arr 1 ([.raw (.slice none 0 0)]::out.map (fun v:List aa=>[bg v])))]) (fun sx=>cur.length-sx.n) ⟨0,1,Hk,Hk,alF cur⟩ ?_ ?_
       ·exact Le.mk rfl (.s rfl rfl (.cons rfl (Sub.gs zS) rfl (.n 2 rfl rfl .nil))) (.arr rfl zS .nil)
       ·rintro⟨k,n,hk,hn,hm⟩;dsimp only;rcases eQ n cur.length with Dn|Dn
        ·refine go [15,25,26]<|aM zQ<|ix zO (L7 (k:=n) zO rfl)<|ix zD (MK (ME _ (T8 zO)))<|ix zO (L7 (k:=k) zO rfl)<|ix zD (MK (ME _ (T8 zO)))<|ord<|br (fun h1=>?_) (fun h1=>?_)
         ·exact sd (ao zO)<|nx ⟨n,n+1,by omega,by omega,alH hm h1⟩ (by show cur.length-(n+1)<cur.length-n;omega) (Le.mk rfl (.s rfl rfl (.cons rfl (Sub.gs zS) rfl (.n 2 rfl rfl .nil))) (.arr rfl zS .nil))
         ·exact sd (ao zO)<|nx ⟨k,n+1,hk,by omega,alG hm h1⟩ (by show cur.length-(n+1)<cur.length-n;omega) (Le.mk rfl (.s rfl rfl (.cons rfl (Sub.gs zS) rfl (.n 2 rfl rfl .nil))) (.arr rfl zS .nil))
        ·refine go [15,25,26]<|aH zQ<|go [15,25,26]<|ix zO (L7 (k:=k) zO rfl)<|oP (bK (n:=1) (rows:=[[bg (cur.getD k [])]]) underlying43 sizeOf48 rfl rfl rfl zeroValue48 rfl rfl rfl rfl rfl rfl rfl)<|oW (ee 3 underlying43 underlying43 sizeOf48 typeInfo48 zeroValue48 rfl (bt:=24) rfl rfl rfl rfl zS rfl rfl zQ)<|go [15,26]<|oP (t_ underlying43 sizeOf48)<|oP (pC underlying43 sizeOf48 rfl (l:=0) (h:=k) (r:=(cur.take k).map (fun v:List aa=>[bg v])) (.inl ⟨rfl,rfl⟩) (.inr ⟨_,_,rfl,rfl⟩) zO zQ (by simp[Iz]))<|oW (aq.gC 4 1 (t:=93) rfl (Sub.yp _ _) (ee 5 underlying43 underlying43 sizeOf48 typeInfo48 zeroValue48 rfl (bt:=24) rfl rfl rfl rfl rfl rfl rfl zQ))<|sd (ao zO)<|oP (pC underlying43 sizeOf48 rfl (l:=k+1) (h:=cur.length) (r:=(cur.drop (k+1)).map (fun v:List aa=>[bg v])) (.inr ⟨_,_,rfl,vp rfl zS⟩) (.inl ⟨rfl,by simp⟩) zO zS (by rw[gZ zS];simp[List.map_drop]))<|oW (ee 6 underlying43 underlying43 sizeOf48 typeInfo48 zeroValue48 rfl (bt:=24) rfl rfl rfl rfl zS rfl rfl zQ)<|ord<|U.nil (cz ?_);exact⟨⟨out++[cur.getD k []],(cur.take k++cur.drop (k+1)),aai hs hk (by have e9:n=cur.length:=zO;subst e9;exact hm),aah (aai hs hk (by have e9:n=cur.length:=zO;subst e9;exact hm)) (Mj s l)⟩,by simp;omega,(Le.freeze 5 6 rfl rfl zS).trans<|(Le.mk (aj:=[(3,_)]) rfl (show ct _ _ [(5,_),(10,_)]from(.n 2 rfl rfl .nil)) (.cons (i:=3) rfl rfl .nil)).trans<|(Le.iz 10 3 2 rfl rfl zS rfl).trans<|Le.mk rfl (.cons rfl (Sub.snap zS) rfl (.cons rfl (Sub.gs zS) rfl .nil)) (.arr rfl zS .nil)⟩
    ·simp only[bD]at hl;refine go [15,25,26]<|aM zQ<|U.loop (ι:=afM s l pre x) (fun sx=>[(1,aQ l),(2,.box 0 0),(5,dm (mG l pre (mU s.insts))),(7,.i pre.length),(8,.gs 1 (fe sx.au x.key).length),(9,.i sx.au.length)]) (fun sx=>[(0,.cells (im s)),(1,.arr 1 (cm (fe sx.au x.key)))]) (fun sx=>sx.az.length) ⟨[],l,rfl⟩ ?_ ?_
     ·exact(Le.gC 1 1).trans<|Le.mk rfl (.n 4 rfl rfl (.cons rfl (Sub.oz _) rfl (.s rfl rfl .nil))) (.cons rfl rfl (.arr rfl (by rfl) .nil))
     ·rintro⟨au,az,aN⟩;dsimp only;have bM:=aT List.length aN;simp only[bl]at bM;have cF:=hd.names (l':=au) zO (fun f hf=>by rw[aN];simp[hf]) x.key;rcases az with _|⟨y,az⟩
      ·obtain rfl:l=au:=by simpa using aN
       refine go [15,25,26]<|aH zS<|go [15,25,26] ?_;refine U.bc (Le.freeze 8 1 rfl rfl zS) ?_;exact go [25,26]<|oP (ah call100 rfl (Wh (mG l pre (mU s.insts)) (fe l x.key) zO zO zO))<|go [15,25,26]<|sd (ao zO)<|nx ⟨pre++[x],rest,by simp[hx]⟩ zS (Le.mk rfl (.n 2 rfl rfl (.cons rfl (Sub.snap (by rw[agY])) rfl (.cons rfl (Sub.int zS) rfl .nil))) (.cons rfl rfl .nil))
      ·simp only[bD]at bM;have A0:=yT y;have uZ:=hd.opts y (by rw[aN];simp);refine go [15,25,26]<|aM zQ<|ix zO (tq aN rfl)<|ix zO (tq hx rfl)<|ord<|br (fun h2=>?_) (fun h2=>?_)
       ·exact ix zO (aK aJ aN rfl)<|oP (ah call101 rfl (Yc y (by have:=hd.opts y (by rw[aN];simp);omega)))<|oW (ee 2 underlying48 underlying48 sizeOf9 typeInfo9 zeroValue9 rfl (bt:=16) rfl rfl rfl rfl zS rfl rfl (by have h9:=cF;simp at h9|-;omega))<|sd (ao zO)<|nx ⟨au++[y],az,by simp[aN]⟩ zS ((Le.mk (aj:=[(0,_),(2,_)]) rfl (show ct _ _ [(1,_),(2,_),(5,_),(7,_),(8,_),(9,_)]from(.n 6 rfl rfl .nil)) (.cons (i:=0) rfl rfl (.cons (i:=2) rfl rfl .nil))).trans<|(Le.iz 8 2 1 rfl rfl zS rfl).trans<|Le.mk rfl (.n 4 rfl rfl (.cons rfl (Sub.gs (by rw[R4 zA];simp)) rfl (.cons rfl (Sub.int zS) rfl .nil))) (.cons rfl rfl (.arr rfl (by rw[R4 zA];simp[cm]) .nil)))
       ·exact sd (ao zO)<|nx ⟨au++[y],az,by simp[aN]⟩ zS (Le.mk rfl (.n 4 rfl rfl (.cons rfl (Sub.gs (by rw[R2 zA])) rfl (.cons rfl (Sub.int zS) rfl .nil))) (.cons rfl rfl (.arr rfl (by rw[R2 zA]) .nil)))
  ·simp only[bD]at yG;exact go [15,25,26]<|aM zQ<|ix zO (DU mS rfl)<|oP (oQ underlying48 sizeOf9 zeroValue9 rfl rfl rfl rfl rfl)<|oP (ah call100 rfl (Wh (mU nY) [x0.id] zO zO zS).sub)<|sd (ao zO)<|nx ⟨nY++[x0],rp,by simp[mS]⟩ zS (Le.mk rfl (.n 2 rfl rfl (.cons rfl (Sub.snap (by rw[akp])) rfl (.cons rfl (Sub.int zS) rfl .nil))) (.cons rfl rfl .nil))
end Go.T
namespace Go.T
open Go
variable[bX] {P:Program} {dst:Option Tmp} {ty:TypeId} {pos:String} {ar:Array Edge} {g:Option (Nat×Bool)} {env:Env}
def ao'{f:FuncId}{xs:List Operand}{tys:Array TypeId}{ds:List D}{id sz n:Nat}{rows:List (List D)}{b:Bool}{Z:ae}
  (fA:∀(args:Array Value)(w:World),(callFunc f args).run P w=.ok (.enter f args) w)(hx:env.kM xs=some (.gs id n::ds))(hf:Fc P f (.snap sz false rows::ds) (.b b))(ho:Z.get id=some (.arr sz rows))(hn:rows.length=n):
  aq P ⟨dst,.call ⟨.value (.func f),xs.toArray,tys⟩,ty,pos,ar,g⟩ env Z (.b b) Z:=by
 intro O ρ a w ai bY hv;have j7:=tW xs _ hx (fun x hx d' h=>hv x (by simp[Op.operands,Call.operands,hx]) d' h);have eY:(execOp a.eval ⟨dst,.call ⟨.value (.func f),xs.toArray,tys⟩,ty,pos,ar,g⟩).run P w=.ok (.enter f (xs.map a.eval).toArray) w:=by
  have h1:execOp a.eval ⟨dst,.call ⟨.value (.func f),xs.toArray,tys⟩,ty,pos,ar,g⟩=callFunc f (xs.map a.eval).toArray:=by
   simp[execOp,resolve,Deferred.ofValue,Act.eval,invoke,Bind.bind,Sem.bind,Pure.pure]
  rw[h1,fA]
 have aP:=Tr.die id ai;unfold Oper.wp;rw[eY];simp only[Oper.upon];simp only[Vs]at j7;obtain⟨u,us,e,h1,h2⟩:=j7;refine Calls.mono (hf.out w (Ot O ρ (Z.set id .dead)) ρ (xs.map a.eval) ?_ (bY.mono aP.kept) ?_) ?_
 ·rintro b (hb|⟨i,o,l,h1,h2,h3,h4⟩)
  ·exact ai.lt b hb
  ·obtain⟨l',h5,_,h6⟩:=aP.ok.own i o h1 h2;rw[h3]at h5;cases h5;exact h4▸h6.lt h2
 ·rw[e];simp only[Vs];exact⟨u,us,rfl,Df ai ho hn h1,Vs.mono aP.kept (bN.refl _) ds us h2⟩
 ·rintro e w' ⟨v,rfl,h1,h2⟩;exact⟨ρ,v,rfl,Tr.pz h2 ai,by simpa[V]using h1⟩
end Go.T
namespace Go.T
open Go Go.Proofs Go.Proofs.Tryz
def sV{gs pre rest:List (List aa)}{x:List aa}(hx:gs.drop 1=pre++x::rest):(gs.map (fun v:List aa=>[bg v]))[((pre.length:Int)+1).toNat]?=some [bg x]:=by
 cases gs with
 |nil=>simp at hx
 |cons a r=>
  have hx:r=pre++x::rest:=hx;rw[hx,show((pre.length:Int)+1).toNat=pre.length+1 by omega];simp
structure acv(gs:List (List aa))where
 pre:List (List aa)
 rest:List (List aa)
 hx:gs.drop 1=pre++rest
 hp:nr gs=pr pre.flatten rest
structure acw(gs:List (List aa))(pre:List (List aa))(x:List aa)where
 au:List aa
 az:List aa
 aN:x=au++az
 hq:lg pre.flatten [] x=lg pre.flatten au az
 ha:ie au
def acu(gs:List (List aa))(hg:gs.flatten.length<=100000):Fc prog 57 [dm gs] (.b (nr gs)):=by
 refine ay func57 ntmps57 results57 ?_;refine U.eh 0 rfl (fun hb=>?_);simp only[bB,aD]at hb;refine go []<|j9 (fun hg=>And.intro zD (UY (Av.2 (by simpa[jw]using hg))))<|br (fun h1=>?_) (fun h1=>?_)
 ·exact af rfl (Sub.bool (by exact aa6 (by simpa[cm]using h1)))
 ·have hld:(gs.drop 1).length=gs.length-1:=z1;have U9:gs.length≠0:=by intro e;rw[cq]at h1;have h9:=h1.1;simp[e]at h9
  refine U.loop (ι:=acv gs) (fun sx=>[(0,dm gs),(3,.gs 0 sx.pre.flatten.length),(4,.i ((sx.pre.length:Int)+1))]) (fun sx=>[(0,.arr 1 (cm sx.pre.flatten))]) (fun sx=>sx.rest.length) ⟨[],_,rfl,aa2 (by simpa[cm]using h1)⟩ ?_ ?_
  ·exact(Le.gC 0 1).trans<|Le.mk rfl (.s rfl rfl (.cons rfl (Sub.oz _) rfl (.s rfl rfl .nil))) (.arr rfl (by rfl) .nil)
  ·rintro⟨pre,rest,hx,hp⟩;dsimp only;rcases lc hx with⟨rfl,hl⟩|⟨x,rest,rfl,hl⟩
   ·exact go []<|aH (by simp at hl|-;omega)<|go []<|af rfl (Sub.bool (by exact hp.symm))
   ·have jd:gs.flatten.length≥pre.flatten.length+x.length:=by have e9:(gs.drop 1).flatten.length<=gs.flatten.length:=(TP (List.drop_sublist 1 gs)).length_le;rw[hx]at e9;simp at e9|-;omega
    refine go []<|aM zQ<|ix zO (sV hx)<|br (fun h2=>?_) (fun h2=>?_)
    ·exact af rfl (Sub.bool (by exact aa3 hp (by simpa[cm]using h2)))
    ·have mS:decide ((x.length:Int)=0)=false:=by simpa[cm]using h2
     refine U.loop (ι:=acw gs pre x) (fun sx=>[(0,dm gs),(3,.gs 0 pre.flatten.length),(4,.i ((pre.length:Int)+1)),(5,.i sx.au.length)]) (fun sx=>[(0,.arr 1 (cm pre.flatten))]) (fun sx=>sx.az.length) ⟨[],x,rfl,rfl,Kg⟩ ?_ ?_
     ·exact Le.mk rfl (.s rfl rfl (.cons rfl (Sub.gs zS) rfl (.n 2 rfl rfl .nil))) (.arr rfl zS .nil)
     ·rintro⟨au,az,aN,hq,ha⟩;dsimp only;rcases lc aN with⟨rfl,bM⟩|⟨x2,az,rfl,bM⟩
      ·have Nh:lg pre.flatten [] x=true:=hq;exact go []<|ix zO (sV hx)<|aH (by simp at bM|-;omega)<|go []<|ix zO (sV hx)<|oW (ee 1 underlying48 underlying48 sizeOf9 typeInfo9 zeroValue9 rfl (bt:=16) rfl rfl rfl rfl (by simp only[cm,bl,bB]) rfl rfl (by simp only[cm,bB];omega))<|go []<|sd (ao zO)<|nx ⟨pre++[x],rest,by simp[hx],by rw[qX];simpa using aa5 hp mS Nh⟩ zS ((Le.mk (aj:=[(1,_)]) rfl (show ct _ _ [(0,_),(3,_),(4,_)]from(.n 3 rfl rfl .nil)) (.cons (i:=1) rfl rfl .nil)).trans<|(Le.iz 3 1 0 rfl rfl (by simp only[cm,bl,bB]) rfl).trans<|Le.mk rfl (.s rfl rfl (.cons rfl (Sub.gs zS) rfl (.cons rfl (Sub.int zS) rfl .nil))) (.arr rfl (by simp[cm]) .nil))
      ·refine go []<|ix zO (sV hx)<|aM zQ<|ix zO (sV hx)<|ix zO (aK (fun s=>[D.str s]) aN rfl)<|oP (ah call94 rfl (za _))<|j9 (fun hg=>And.intro zO (sV hx))<|j9 (fun hg=>And.intro zO (aK (fun s=>[D.str s]) aN rfl))<|j9 (fun hg=>And.intro zO (sV hx))<|PS (fun hg=>cT zO zO)<|j9 (fun hg=>And.intro (by have yz:=hg;simp[jw]at yz;omega) (Bg (fun s=>[D.str s]) aN (by have yz:=hg;simp[jw]at yz;omega) rfl))<|j9 (fun hg=>And.intro zO (sV hx))<|j9 (fun hg=>And.intro zO (aK (fun s=>[D.str s]) aN rfl))<|gR (fun hg=>ao' call73 rfl (Hh pre.flatten x2) rfl (by simp only[cm,bB]))<|ord<|br (fun h3=>?_) (fun h3=>?_)
       ·exact af rfl (Sub.bool (by exact aa4 hp mS (ajU ha hq h3)))
       ·exact sd (ao zO)<|nx ⟨au++[x2],az,by simp[aN],ajT ha hq h3,acH ha h3⟩ zS (Le.mk rfl (.s rfl rfl (.cons rfl (Sub.gs zS) rfl (.s rfl rfl (.cons rfl (Sub.int zS) rfl .nil)))) (.arr rfl zS .nil))
structure atK(tl:List (List aa))(f:Fact)where
 pre:List aa
 rest:List aa
 a:Int
 m:Bool
 hx:(b_ f)=pre++rest
 hw:xV (mq tl) pre a m
structure atL(tl:List (List aa))(f:Fact)(pre:List aa)(x:aa)(a:Int)(m:Bool)where
 au:List (List aa)
 az:List (List aa)
 aN:tl=au++az
def abq(tl:List (List aa))(f:Fact)(hn:tl.flatten.Nodup)(ho:f.opts.length<=100000):Fc prog 58 [dm ([]::tl),.agg (aJ f)] (.a_ [.i (gh ([]::tl) (b_ f)).1,.i (gh ([]::tl) (b_ f)).2]):=by
 refine gq func58 ntmps58 results58 ?_;refine U.eh 0 rfl (fun hb=>?_);simp only[bB,aD]at hb;simp only[bD]at hb;have A0:=yT f;refine go []<|oP (ah call101 rfl (Yc f ho))<|U.loop (ι:=atK tl f) (fun sx=>[(0,dm ([]::tl)),(3,.box 0 0),(6,bg (b_ f)),(7,.i sx.a),(8,.b sx.m),(9,.i sx.pre.length)]) (fun sx=>[(0,.cells (aJ f))]) (fun sx=>sx.rest.length) ⟨[],_,0,false,rfl,atP _⟩ ?_ ?_
 ·exact Le.mk rfl (.n 6 rfl rfl .nil) (.cons rfl rfl .nil)
 ·rintro⟨pre,rest,a,m,hx,hw⟩;dsimp only;rcases lc hx with⟨rfl,hl⟩|⟨x,rest,rfl,hl⟩
  ·have hx9:pre=(b_ f):=by simpa using hx.symm
   rw[hx9]at hw;refine go []<|aH (by simp at hl|-;omega)<|go []<|br (fun h1=>?_) (fun h1=>?_)
   ·exact cw rfl rfl (Sub.int (by subst h1;rw[abt hn hw])) (Sub.int (by subst h1;rw[abt hn hw]))
   ·exact cw rfl rfl (Sub.int (by subst h1;rw[abr hn hw])) (Sub.int (by subst h1;rw[abr hn hw]))
  ·refine go []<|aM zQ<|U.loop (ι:=atL tl f pre x a m) (fun sx=>[(0,dm ([]::tl)),(3,.box 0 0),(6,bg (b_ f)),(7,.i a),(8,.b m),(9,.i pre.length),(10,.i (mq sx.au x)),(11,.i ((sx.au.length:Int)+1))]) (fun sx=>[(0,.cells (aJ f))]) (fun sx=>sx.az.length) ⟨[],tl,rfl⟩ ?_ ?_
   ·exact Le.mk rfl (.n 8 rfl rfl .nil) (.cons rfl rfl .nil)
   ·rintro⟨au,az,aN⟩;dsimp only;rcases lc aN with⟨rfl,bM⟩|⟨x2,az,rfl,bM⟩
    ·obtain rfl:tl=au:=by simpa using aN
     refine go []<|aH zS<|go []<|br (fun h2=>?_) (fun h2=>?_)
     ·exact cw rfl rfl (Sub.int (by rw[abu hn hx (by simpa using h2)])) (Sub.int (by rw[abu hn hx (by simpa using h2)]))
     ·exact go []<|sd (ao zO)<|nx ⟨pre++[x],rest,mq tl x,_,by simp[hx],atQ hw (by simpa using h2)⟩ zS (Le.mk rfl (.n 5 rfl rfl (.cons rfl (Sub.int zS) rfl .nil)) (.cons rfl rfl .nil))
    ·refine go []<|aM zQ<|ix zO (sV (gs:=[]::tl) aN)<|ix zO (aK (fun s=>[D.str s]) hx rfl)<|oP (ah call73 rfl (Hh _ _))<|ord<|br (fun h3=>?_) (fun h3=>?_)
     ·exact sd (ao zO)<|nx ⟨au++[x2],az,by simp[aN]⟩ zS (Le.mk rfl (.n 6 rfl rfl (.cons rfl (Sub.int (by(show _=(jv x (au++[x2])).2;rw[zm,aV h3];done))) rfl (.cons rfl (Sub.int zS) rfl .nil))) (.cons rfl rfl .nil))
     ·exact sd (ao zO)<|nx ⟨au++[x2],az,by simp[aN]⟩ zS (Le.mk rfl (.n 6 rfl rfl (.cons rfl (Sub.int (by(show _=(jv x (au++[x2])).2;rw[zm,aF (by rw[h3];simp)];done))) rfl (.cons rfl (Sub.int zS) rfl .nil))) (.cons rfl rfl .nil))
@[reducible] def manyN(v:List aa):Bool:=iV 10 v||v.any (gt 24)
@[reducible] def Ek(gs:List (List aa)):Bool:=iV 10 gs||gs.any manyN
def amv{gs:List (List aa)}(h:Ek gs=false):gs.flatten.length<=100:=by
 unfold Ek at h;rw[cq]at h;have h1:gs.length<=10:=by have:=h.1;simp[iV]at this;omega
 have h2:∀v∈gs,v.length<=10:=fun v hv=>by
  have:=tM.1 h.2 v hv;simp only[manyN,fZ,HW]at this;have:=this.1;simp[iV]at this;omega
 have:∀l:List (List aa),(∀v∈l,v.length<=10)->l.flatten.length<=l.length*10:=fun l=>by
  induction l with
  |nil=>simp
  |cons a r ih=>
   intro hl;have e1:=hl a zS;have e2:=ih fun v hv=>hl v (by simp[hv]);rw[fW,bl,bD,Kp];omega
 have:=this gs h2;omega
def al2(s:aa):Fc prog 51 [.str s] (.b (gt 24 s)):=by
 refine ay func51 ntmps51 results51 ?_;exact go []<|af rfl (Sub.refl _)
def amu(v:List aa):Fc prog 50 [bg v] (.b (manyN v)):=by
 refine ay func50 ntmps50 results50 ?_;exact go []<|gP (fun hg=>ah call13 rfl (aes v _ [] rfl (gt 24) call51 (fun s _=>al2 s)))<|af rfl (Sub.bool (by simp[iV,manyN,cm]))
def ams(gs:List (List aa)):Fc prog 20 [dm gs] (.b (Ek gs)):=by
 refine ay func20 ntmps20 results20 ?_;exact go []<|gP (fun hg=>ah call16 rfl (aeq gs _ [] rfl manyN call50 (fun v _=>amu v)))<|af rfl (Sub.bool (by simp[iV,Ek]))
end Go.T
