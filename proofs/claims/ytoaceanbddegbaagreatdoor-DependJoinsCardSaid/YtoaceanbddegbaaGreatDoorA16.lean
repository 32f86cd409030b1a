/-
  Contracts of the functions that the statement reaches, and the logic in which they are proved (no condition): parts SpecD16, SpecD17, Core57, SpecD18, Core60, SpecD19, W99, StrO, Core58, Core59, W100, W101, W102, W103, W104, W105, W106, W107, W108, Core61, W109, W110, Core62, SpecD20, SpecD21, SpecD22.
-/
import Derived.Test.YtoaceanbddegbaaGreatDoorA15
set_option linter.all false
namespace Go.T
open Go
def mB(f:bu)(seen:List Nat):bu:=seen.foldl bu.kill f
theorem Ff(f:bu)(seen:List Nat)(j:Nat):mB f (seen++[j])=(mB f seen).kill j:=by simp[mB]
theorem aa9(seen:List Nat):∀f:bu,gY (mB f seen)=gY f:=by
 induction seen with
 |nil=>intro f;rfl
 |cons j seen ih=>intro f;show gY (mB (f.kill j) seen)=_;rw[ih,aa8]
theorem Ry(seen:List Nat):∀(f:bu)(j:Nat),j∉seen→(mB f seen).cL[j]?=f.cL[j]?:=by
 induction seen with
 |nil=>intro f j _;rfl
 |cons i seen ih=>
  intro f j hj;show(mB (f.kill i) seen).cL[j]?=_;rw[ih _ _ (fun h=>hj (List.mem_cons_of_mem _ h)),RB,if_neg (fun(h:j=i)=>hj (h▸List.mem_cons_self))]
theorem OK{f:bu}{j:Nat}{k:ae}{v:Nat×Nat}(h:(gY f)[j]?=some (k,v)):∃e,f.cL[j]?=some e∧e.key=k∧v=(e.id,e.rows.length):=by
 unfold gY at h;rw[List.getElem?_map,Option.map_eq_some_iff]at h;obtain⟨e,h1,h2⟩:=h;cases h2;exact⟨e,h1,rfl,rfl⟩
def yo(f:bu)(j:Nat):Option (List ae):=(f.cL[j]?).map (·.rows)
theorem ajh{f:bu}{seen:List Nat}{j:Nat}{e:FE}(h:f.cL[j]?=some e):(seen++[j]).filterMap (yo f)=seen.filterMap (yo f)++[e.rows]:=by
 simp[List.filterMap_append,yo,h]
theorem gk.perm{u:UM}{Ls tB:List (List ae)}(h:gk u Ls)(hp:∀l,l∈Ls↔l∈tB):gk u tB:=
 h.mono (fun l hl=>⟨l,(hp l).1 hl,fun _=>id⟩) (fun l hl=>⟨l,(hp l).2 hl,fun _=>id⟩)
theorem gk.join{u:UM}{Ls:List (List ae)}(h:gk u Ls)(l:List ae):gk (vP u l) (Ls++[l]):=(UP h l).perm fun x=>by simp[or_comm]
theorem gk.add{u:UM}{Ls:List (List ae)}(h:gk u Ls)(x:ae):gk (dP u x) (Ls++[[x]]):=(ajy h x).perm fun y=>by simp[or_comm]
def mf(s:Setup)(l:List Fact):List (List ae):=(s.insts.map fun x=>[x.id])++l.map gZ++l.map fun f=>oc l f.key
theorem Ox{fm:bu}{l:List Fact}(h:wJ fm l){j:Nat}{e:FE}(hj:fm.cL[j]?=some e):e.rows=oc l e.key:=by
 have he:=List.mem_of_getElem? hj;rw[←h.rows e.key];unfold jX xf;have:fm.cL.find? (fun x=>decide (e.key=x.key))=some e:=by
  have hn:=h.nd
  revert he hn
  induction fm.cL with
  |nil=>intro he;cases he
  |cons a r ih=>
   intro he hn;rw[List.map_cons,List.nodup_cons]at hn;rcases List.mem_cons.1 he with rfl|he
   ·rw[List.find?_cons_of_pos zS]
   ·rw[List.find?_cons_of_neg,ih he hn.2];simp only[decide_eq_true_eq];intro c;exact hn.1 (c▸List.mem_map.2 ⟨e,he,rfl⟩)
 rw[this];rfl
theorem N_{s:Setup}{l:List Fact}{fm:bu}{u:UM}{seen:List Nat}(h:wJ fm l)(eI:∀j,j<(gY fm).length→j∈seen)
  (hu:gk u ((s.insts.map fun x=>[x.id])++l.map gZ++seen.filterMap (yo fm))):gk u (mf s l):=by
 refine hu.perm fun x=>?_;unfold mf;rw[List.mem_append,List.mem_append (s:=_++_)];refine or_congr Iff.rfl ?_;rw[List.mem_filterMap,List.mem_map];constructor
 ·rintro⟨j,_,hj⟩;unfold yo at hj;obtain⟨e,h1,rfl⟩:=Option.map_eq_some_iff.1 hj;have hk:=(h.keys e.key).1 (List.mem_map.2 ⟨e,List.mem_of_getElem? h1,rfl⟩);obtain⟨f,hf,e2⟩:=List.mem_map.1 hk;exact⟨f,hf,by rw[e2,Ox h h1]⟩
 ·rintro⟨f,hf,rfl⟩;obtain⟨e,he,e2⟩:=List.mem_map.1 ((h.keys f.key).2 (List.mem_map.2 ⟨f,hf,rfl⟩));obtain⟨j,hj⟩:=List.getElem?_of_mem he;refine⟨j,eI j (by unfold gY;rw[List.length_map];exact(List.getElem?_eq_some_iff.1 hj).1),?_⟩;unfold yo;rw[hj];show some e.rows=_;rw[Ox h hj,e2]
theorem Y'{l:List Fact}{n:Nat}(h:∀f∈l,f.opts.length≤n)(k:ae):(oc l k).length≤l.length*(2+n):=by
 induction l with
 |nil=>simp[oc]
 |cons f r ih=>
  have h1:=ih fun g hg=>h g (List.mem_cons_of_mem _ hg);have h2:=JW f;have h3:=h f List.mem_cons_self;have e:oc (f::r) k=(if f.key=k then gZ f else[])++oc r k:=by
   unfold oc;by_cases c:f.key=k<;>simp[c]
  rw[e,List.length_append,List.length_cons,Nat.add_mul,Nat.one_mul];split
  ·omega
  ·simp;omega
theorem afg(a b c:ae):decide (a≤b)=true→decide (b≤c)=true→decide (a≤c)=true:=by
 simp only[decide_eq_true_eq];exact List.le_trans
theorem aff(a b:ae):(decide (a≤b)||decide (b≤a))=true:=by
 simp only[Bool.or_eq_true,decide_eq_true_eq];exact List.le_total a b
theorem yt(l:List ae):(gh l).Pairwise fun a b=>a≤b:=(List.pairwise_mergeSort afg aff l).imp fun h=>of_decide_eq_true h
theorem Gn{a b:List ae}(h:a.Perm b)(ha:a.Pairwise fun x y=>x≤y)(hb:b.Pairwise fun x y=>x≤y):a=b:=
 List.Perm.eq_of_pairwise (fun _ _ _ _ h1 h2=>List.le_antisymm h1 h2) ha hb h
theorem LR{a b:List ae}(h:a.Perm b):gh a=gh b:=
 Gn ((oM a).trans (h.trans (oM b).symm)) (yt a) (yt b)
theorem aht{a b:List ae}(ha:a.Nodup)(hb:b.Nodup)(h:∀x,x∈a↔x∈b):a.Perm b:=(List.perm_ext_iff_of_nodup ha hb).2 h
noncomputable def mY(u:UM)(x:ae):List ae:=gh ((aI u).filter fun y=>decide (aJ u y=aJ u x))
noncomputable def ow(u:UM)(x:ae):Bool:=(aI u).all fun y=>decide (aJ u y=aJ u x→x≤y)
noncomputable def jL(u:UM):List (List ae):=(gh ((aI u).filter (ow u))).map (mY u)
theorem ajA{u u':UM}{Ls:List (List ae)}(h:gk u Ls)(h':gk u' Ls):jL u=jL u':=by
 have hp:(aI u).Perm (aI u'):=aht h.nd h'.nd fun x=>(h.keys x).trans (h'.keys x).symm;have hm:∀x,x∈aI u↔x∈aI u':=fun x=>hp.mem_iff;have hr:∀x∈aI u,∀y∈aI u,(aJ u y=aJ u x↔aJ u' y=aJ u' x):=fun x hx y hy=>(h.conn y x hy hx).trans (h'.conn y x ((hm y).1 hy) ((hm x).1 hx)).symm;have hl:∀x∈aI u,ow u x=ow u' x:=fun x hx=>by
  rw[Bool.eq_iff_iff];unfold ow;simp only[List.all_eq_true,decide_eq_true_eq];constructor
  ·intro g y hy e;exact g y ((hm y).2 hy) ((hr x hx y ((hm y).2 hy)).2 e)
  ·intro g y hy e;exact g y ((hm y).1 hy) ((hr x hx y hy).1 e)
 have e1:gh ((aI u).filter (ow u))=gh ((aI u').filter (ow u')):=by
  refine LR ?_;rw[List.filter_congr hl];exact hp.filter _
 unfold jL;rw[←e1];refine List.map_congr_left fun x hx=>?_;have nC:x∈aI u:=(List.mem_filter.1 ((oM _).mem_iff.1 hx)).1;unfold mY;refine LR ?_;rw[List.filter_congr (q:=fun y=>decide (aJ u' y=aJ u' x)) fun y hy=>by rw[decide_eq_decide];exact hr x nC y hy];exact hp.filter _
open Classical in
noncomputable def sv(Ls:List (List ae)):List (List ae):=if h:∃u,gk u Ls then jL (Classical.choose h)else[]
theorem PO{u:UM}{Ls:List (List ae)}(h:gk u Ls):jL u=sv Ls:=by
 have hx:∃u,gk u Ls:=⟨u,h⟩;unfold sv;rw[dif_pos hx];exact ajA h (Classical.choose_spec hx)
abbrev xa(l:List (List ae)):D:=.snap 1 false ([.raw (.slice none 0 0)]::l.map fun r=>[D.snap 1 false (tq r)])
end Go.T
namespace Go.T
open Go
theorem H_{own:aa}{f:bu}{k:ae}{new:List ae}{o' o:Ob}(i:Nat)(h:own.get i=some o)(h1:Nat.beq i 61=false)(h2:Nat.blt i 99=true):aa.get ((99,.arr 1 [])::(xe own f k new).set 61 o') i=some o:=by
 have h1:i≠61:=fun e=>by subst e;simp at h1
 have h2:i<99:=by simpa[Nat.blt_eq]using h2
 rw[aa.bf,if_neg zO,aa.eG,if_neg zO,H9 h2];exact CN h
theorem OG{own:aa}{f:bu}{k:ae}{new:List ae}{o':Ob}:aa.get ((99,.arr 1 [])::(xe own f k new).set 61 o') 61=some o':=by
 rw[aa.bf,if_neg zO,aa.eG,if_pos rfl]
theorem x4{f:bu}(own:aa)(seen:List Nat):(Ob.mp (bZ D.str kH (gY f))).okB (aa.has (own++de (mB f seen)))=true:=by
 have:=Ap own (mB f seen);rw[aa9]at this;exact this
theorem aa_{own:aa}{f:bu}{j:Nat}{e:FE}(fj:mA 0 own=true)(hj:f.cL[j]?=some e)(hl:e.live=true):aa.get (own++de f) e.id=some (.arr 1 (tq e.rows)):=by
 have h1:=y3 f (List.mem_of_getElem? hj);have:=uH fj (y4 f) _ _ h1;rw[this];unfold FE.ob;rw[if_pos hl]
theorem Eo{own:aa}{f:bu}{j:Nat}{e:FE}{o:Ob}(i:Nat)(hj:f.cL[j]?=some e)(h:own.get i=some o)(hi:Nat.blt i 1000=true):aa.get ((own++de f).set e.id .dead) i=some o:=by
 have:=(f.lo e (List.mem_of_getElem? hj)).1;have hi:i<1000:=by simpa[Nat.blt_eq]using hi
 rw[aa.eG,if_neg zO];exact CN h
theorem aba{own km:aa}{f:bu}{j:Nat}{e:FE}(fj:mA 0 own=true)(hj:f.cL[j]?=some e):∀i x,(de (f.kill j)).get i=some x→aa.get ((own++de f).set e.id .dead) i=some x∧x.okB (aa.has (km++de (f.kill j)))=true:=
 OL hj (by rw[aa.eG,if_pos rfl]) fun i x hi h=>by
  rw[aa.eG,if_neg (fun c=>hi c.symm)];exact uH fj (y4 f) _ _ h
structure pF(fm:bu)(u:UM)(ks:List ae):Prop where
 live:∀e∈fm.cL,e.live=true
 rows:∀r,jX fm r=ks.filter fun k=>decide (aJ u k=r)
 keys:∀r,r∈fm.cL.map (·.key)↔∃k∈ks,aJ u k=r
 nd:(fm.cL.map (·.key)).Nodup
theorem ack(u:UM):pF bu.empty u []:=⟨by simp[bu.empty],fun k=>rfl,by simp[bu.empty],by simp[bu.empty]⟩
theorem pF.add{fm:bu}{u:UM}{ks:List ae}(h:pF fm u ks)(x:ae):pF (fm.add (aJ u x) [x]) u (ks++[x]):=by
 refine⟨fun e he=>?_,fun r=>?_,fun r=>?_,LK _ h.nd⟩
 ·rcases C7 he with he|rfl
  ·exact h.live e he
  ·rfl
 ·rw[OI,h.rows,h.rows,List.filter_append];by_cases c:r=aJ u x
  ·rw[if_pos c,←c];congr 1;simp[c]
  ·rw[if_neg c];have:¬aJ u x=r:=fun e=>c e.symm;simp[this]
 ·show r∈(kO _ _ _ _).map (·.key)↔_;rw[Gg,h.keys r];constructor
  ·rintro(rfl|⟨k,hk,e⟩)
   ·exact⟨x,by simp,rfl⟩
   ·exact⟨k,by simp[hk],e⟩
  ·rintro⟨k,hk,e⟩;rcases List.mem_append.1 hk with hk|hk
   ·exact .inr ⟨k,hk,e⟩
   ·left;rw[List.mem_singleton.1 hk]at e;exact e.symm
theorem EK{fm:bu}{u:UM}{ks:List ae}(h:pF fm u ks){j:Nat}{e:FE}(hj:fm.cL[j]?=some e):e.rows=ks.filter fun k=>decide (aJ u k=e.key):=by
 have he:=List.mem_of_getElem? hj;rw[←h.rows e.key];unfold jX xf;have:fm.cL.find? (fun x=>decide (e.key=x.key))=some e:=by
  have hn:=h.nd
  revert he hn
  induction fm.cL with
  |nil=>intro he;cases he
  |cons a r ih=>
   intro he hn;rw[List.map_cons,List.nodup_cons]at hn;rcases List.mem_cons.1 he with rfl|he
   ·rw[List.find?_cons_of_pos zS]
   ·rw[List.find?_cons_of_neg,ih he hn.2];simp only[decide_eq_true_eq];intro c;exact hn.1 (c▸List.mem_map.2 ⟨e,he,rfl⟩)
 rw[this];rfl
theorem Gm{l:List ae}(h:l≠[]):(gh l).headD []∈l∧∀y∈l,(gh l).headD []≤y:=by
 have hp:=oM l;have hw:=yt l;cases e:gh l with
 |nil=>
  rw[e]at hp;exact absurd (List.length_eq_zero_iff.1 hp.length_eq.symm) h
 |cons a r=>
  rw[e]at hp hw;refine⟨hp.mem_iff.1 List.mem_cons_self,fun y hy=>?_⟩;rcases List.mem_cons.1 (hp.mem_iff.2 hy)with rfl|hy
  ·exact List.le_refl _
  ·exact(List.pairwise_cons.1 hw).1 y hy
theorem wU{u:UM}{x:ae}(hx:x∈aI u):x∈(aI u).filter fun y=>decide (aJ u y=aJ u x):=List.mem_filter.2 ⟨hx,by simp⟩
theorem Ns{u:UM}{x:ae}(hx:x∈aI u)(hl:ow u x=true):(mY u x).headD []=x:=by
 have aG:((aI u).filter fun y=>decide (aJ u y=aJ u x))≠[]:=List.ne_nil_of_mem (wU hx);obtain⟨h1,h2⟩:=Gm aG;obtain⟨h3,h4⟩:=List.mem_filter.1 h1;unfold ow at hl;simp only[List.all_eq_true,decide_eq_true_eq]at hl;exact List.le_antisymm (h2 x (wU hx)) (hl _ h3 (of_decide_eq_true h4))
theorem Aa{u:UM}{x:ae}:x∈gh ((aI u).filter (ow u))↔x∈aI u∧ow u x=true:=by
 rw[xX,List.mem_filter]
theorem IG(u:UM):(jL u).map (·.headD [])=gh ((aI u).filter (ow u)):=by
 unfold jL;rw[List.map_map];conv=>rhs;rw[←List.map_id (gh ((aI u).filter (ow u)))]
 refine List.map_congr_left fun x hx=>?_;have:=Aa.1 hx;exact Ns this.1 this.2
def jB(fm:bu)(seen:List Nat):List (List ae):=seen.filterMap fun j=>(fm.cL[j]?).map fun e=>gh e.rows
theorem Pq{fm:bu}{seen:List Nat}{j:Nat}{e:FE}(h:fm.cL[j]?=some e):jB fm (seen++[j])=jB fm seen++[gh e.rows]:=by
 simp[jB,List.filterMap_append,h]
theorem II{u:UM}{ks:List ae}(hp:ks.Perm (aI u))(r:ae):gh (ks.filter fun k=>decide (aJ u k=r))=gh ((aI u).filter fun k=>decide (aJ u k=r)):=LR (hp.filter _)
theorem Kn{fm:bu}{u:UM}{ks:List ae}{seen:List Nat}(h:pF fm u ks)(hp:ks.Perm (aI u)){l:List ae}(hl:l∈jB fm seen):∃x∈aI u,ow u x=true∧l=mY u x:=by
 unfold jB at hl;obtain⟨j,_,hj⟩:=List.mem_filterMap.1 hl;obtain⟨e,he,rfl⟩:=Option.map_eq_some_iff.1 hj;obtain⟨k,hk,hr⟩:=(h.keys e.key).1 (List.mem_map.2 ⟨e,List.mem_of_getElem? he,rfl⟩);rw[EK h he,II hp,←hr];have qB:k∈aI u:=hp.mem_iff.1 hk;have aG:((aI u).filter fun y=>decide (aJ u y=aJ u k))≠[]:=List.ne_nil_of_mem (wU qB);obtain⟨h1,h2⟩:=Gm aG;generalize (gh ((aI u).filter fun y=>decide (aJ u y=aJ u k))).headD []=x at h1 h2;obtain⟨h3,h4⟩:=List.mem_filter.1 h1;have h4:aJ u x=aJ u k:=by simpa using h4
 refine⟨x,h3,?_,by unfold mY;rw[h4]⟩;unfold ow;simp only[List.all_eq_true,decide_eq_true_eq];exact fun y hy e=>h2 y (List.mem_filter.2 ⟨hy,by simpa[h4]using e⟩)
theorem abG{fm:bu}{u:UM}{ks:List ae}{seen:List Nat}(h:pF fm u ks)(hp:ks.Perm (aI u))(eI:∀j,j<(gY fm).length→j∈seen){x:ae}(hx:x∈aI u):mY u x∈jB fm seen:=by
 obtain⟨e,he,hk⟩:=List.mem_map.1 ((h.keys (aJ u x)).2 ⟨x,hp.mem_iff.2 hx,rfl⟩);obtain⟨j,hj⟩:=List.getElem?_of_mem he;unfold jB;refine List.mem_filterMap.2 ⟨j,eI j (by unfold gY;rw[List.length_map];exact(List.getElem?_eq_some_iff.1 hj).1),?_⟩;rw[hj];show some (gh e.rows)=_;rw[EK h hj,II hp,hk];rfl
theorem acJ{u:UM}{x:ae}(hx:x∈aI u):aJ u ((mY u x).headD [])=aJ u x:=by
 have aG:((aI u).filter fun y=>decide (aJ u y=aJ u x))≠[]:=List.ne_nil_of_mem (wU hx);exact of_decide_eq_true (List.mem_filter.1 (Gm aG).1).2
theorem abJ{fm:bu}{u:UM}{ks:List ae}(h:pF fm u ks)(hp:ks.Perm (aI u))(seen:List Nat):(jB fm seen).map (fun l=>aJ u (l.headD []))=seen.filterMap fun j=>(fm.cL[j]?).map (·.key):=by
 unfold jB;rw[List.map_filterMap]
 congr 1
 funext j
 cases hj:fm.cL[j]?with
 |none=>rfl
 |some e=>
  simp only[Option.map_some,Option.some.injEq];obtain⟨k,hk,hr⟩:=(h.keys e.key).1 (List.mem_map.2 ⟨e,List.mem_of_getElem? hj,rfl⟩);rw[EK h hj,II hp,←hr];exact acJ (hp.mem_iff.1 hk)
theorem Iu{fm:bu}{u:UM}{ks:List ae}(h:pF fm u ks)(hp:ks.Perm (aI u)){seen:List Nat}(hs:seen.Nodup):((jB fm seen).map (·.headD [])).Nodup:=by
 have h1:((jB fm seen).map (fun l=>aJ u (l.headD []))).Nodup:=by
  rw[abJ h hp];refine List.Pairwise.filterMap _ (fun i j rB a ha b hb e=>rB ?_) hs;obtain⟨x,hx,rfl⟩:=Option.map_eq_some_iff.1 ha;obtain⟨y,hy,rfl⟩:=Option.map_eq_some_iff.1 hb;have h1:(fm.cL.map (·.key))[i]?=some x.key:=by rw[List.getElem?_map,hx];rfl
  have h2:(fm.cL.map (·.key))[j]?=some x.key:=by rw[List.getElem?_map,hy];exact congrArg some e.symm
  obtain⟨a1,b1⟩:=List.getElem?_eq_some_iff.1 h1;obtain⟨a2,b2⟩:=List.getElem?_eq_some_iff.1 h2;have hq:=List.pairwise_iff_getElem.1 h.nd;rcases Nat.lt_trichotomy i j with h3|h3|h3
  ·exact absurd (b1.trans b2.symm) (hq _ _ a1 a2 h3)
  ·exact h3
  ·exact absurd (b2.trans b1.symm) (hq _ _ a2 a1 h3)
 have h2:(((jB fm seen).map (·.headD [])).map (aJ u)).Nodup:=by rw[List.map_map];exact h1
 exact(List.pairwise_map.1 h2).imp fun aG e=>aG (congrArg _ e)
theorem abI{fm:bu}{u:UM}{ks:List ae}{seen:List Nat}(h:pF fm u ks)(hp:ks.Perm (aI u))(hn:(aI u).Nodup)(hs:seen.Nodup)(eI:∀j,j<(gY fm).length→j∈seen):(jL u).Perm (jB fm seen):=by
 have n1:(jL u).Nodup:=by
  have:((jL u).map (·.headD [])).Nodup:=by
   rw[IG];exact(oM _).nodup_iff.2 (hn.filter _)
  exact(List.pairwise_map.1 this).imp fun aG e=>aG (by rw[e])
 have n2:(jB fm seen).Nodup:=(List.pairwise_map.1 (Iu h hp hs)).imp fun aG e=>aG (by rw[e]);refine(List.perm_ext_iff_of_nodup n1 n2).2 fun l=>?_;constructor
 ·intro hl;unfold jL at hl;obtain⟨x,hx,rfl⟩:=List.mem_map.1 hl;exact abG h hp eI (Aa.1 hx).1
 ·intro hl;obtain⟨x,hx,h1,rfl⟩:=Kn h hp hl;unfold jL;exact List.mem_map.2 ⟨x,Aa.2 ⟨hx,h1⟩,rfl⟩
theorem abH{fm:bu}{u:UM}{ks:List ae}{seen:List Nat}(h:pF fm u ks)(hp:ks.Perm (aI u)):∀l∈jB fm seen,l≠[]:=fun l hl=>by
 obtain⟨x,hx,_,rfl⟩:=Kn h hp hl;have:x∈mY u x:=by unfold mY;rw[xX];exact wU hx
 exact List.ne_nil_of_mem this
theorem PR(u:UM):((jL u).map (·.headD [])).Pairwise fun a b=>a≤b:=by rw[IG];exact yt _
theorem Qc{i j:Nat}{o:Ob}(h:i≠j):aa.has [(i,o)] j=false:=by
 show(aa.get [(i,o)] j).isSome=false;rw[aa.bf,if_neg h];rfl
theorem abR{i:Nat}{o:Ob}{r:aa}:aa.get ((i,o)::r) i=some o:=by rw[aa.bf,if_pos rfl]
abbrev OH(own:aa)(f:bu)(e:FE)(o':Ob):aa:=(e.id,o')::aa.rest (own++de f) [(e.id,e.ob)]
theorem Bm{own:aa}{f:bu}{j:Nat}{e:FE}{o' o:Ob}(i:Nat)(hj:f.cL[j]?=some e)(h:own.get i=some o)(hi:Nat.blt i 1000=true):aa.get ((OH own f e o').set e.id .dead) i=some o:=by
 have:=(f.lo e (List.mem_of_getElem? hj)).1;have hi:i<1000:=by simpa[Nat.blt_eq]using hi
 rw[aa.eG,if_neg zO,aa.bf,if_neg zO,aa.su];have:aa.has [(e.id,e.ob)] i=false:=Qc zO;rw[this];exact CN h
theorem abc{own km:aa}{f:bu}{j:Nat}{e:FE}{o':Ob}(fj:mA 0 own=true)(hj:f.cL[j]?=some e):∀i x,(de (f.kill j)).get i=some x→aa.get ((OH own f e o').set e.id .dead) i=some x∧x.okB (aa.has (km++de (f.kill j)))=true:=
 OL hj (by rw[aa.eG,if_pos rfl]) fun i x hi h=>by
  rw[aa.eG,if_neg (fun c=>hi c.symm),aa.bf,if_neg (fun c=>hi c.symm),aa.su];have:aa.has [(e.id,e.ob)] i=false:=Qc fun c=>hi c.symm;rw[this];exact uH fj (y4 f) _ _ h
def vQ(u:UM)(j:Nat):Option ae:=(u[j]?).map (·.1)
theorem aev{u:UM}{seen:List Nat}{j:Nat}{k v:ae}(h:u[j]?=some (k,v)):(seen++[j]).filterMap (vQ u)=seen.filterMap (vQ u)++[k]:=by
 simp[List.filterMap_append,vQ,h]
theorem aeu{u:UM}{j:Nat}{k v:ae}(h:u[j]?=some (k,v)):k∈aI u:=List.mem_map.2 ⟨(k,v),List.mem_of_getElem? h,rfl⟩
theorem aez{u:UM}{seen:List Nat}(hn:(aI u).Nodup)(hs:seen.Nodup)(eI:∀j,j<u.length→j∈seen):(seen.filterMap (vQ u)).Perm (aI u):=by
 have n1:(seen.filterMap (vQ u)).Nodup:=by
  refine List.Pairwise.filterMap _ (fun i j rB a ha b hb e=>rB ?_) hs;have h1:(aI u)[i]?=some a:=by unfold aI;rw[List.getElem?_map];exact ha
  have h2:(aI u)[j]?=some a:=by unfold aI;rw[List.getElem?_map,e];exact hb
  obtain⟨a1,b1⟩:=List.getElem?_eq_some_iff.1 h1;obtain⟨a2,b2⟩:=List.getElem?_eq_some_iff.1 h2;have hq:=List.pairwise_iff_getElem.1 hn;rcases Nat.lt_trichotomy i j with h3|h3|h3
  ·exact absurd (b1.trans b2.symm) (hq _ _ a1 a2 h3)
  ·exact h3
  ·exact absurd (b2.trans b1.symm) (hq _ _ a2 a1 h3)
 refine(List.perm_ext_iff_of_nodup n1 hn).2 fun k=>?_;constructor
 ·intro h;obtain⟨j,_,hj⟩:=List.mem_filterMap.1 h;obtain⟨p,hp,rfl⟩:=Option.map_eq_some_iff.1 hj;exact List.mem_map.2 ⟨p,List.mem_of_getElem? hp,rfl⟩
 ·intro h;obtain⟨p,hp,rfl⟩:=List.mem_map.1 h;obtain⟨j,hj⟩:=List.getElem?_of_mem hp;exact List.mem_filterMap.2 ⟨j,eI j (List.getElem?_eq_some_iff.1 hj).1,by unfold vQ;rw[hj];rfl⟩
theorem aet(u:UM)(seen:List Nat):(seen.filterMap (vQ u)).length≤seen.length:=List.length_filterMap_le _ _
theorem afP{l:List Fact}{k x:ae}(h:x∈oc l k):∃f∈l,x∈gZ f:=by
 unfold oc at h;obtain⟨r,hr,hx⟩:=List.mem_flatten.1 h;obtain⟨f,hf,rfl⟩:=List.mem_map.1 hr;exact⟨f,(List.mem_filter.1 hf).1,hx⟩
theorem N'{s:Setup}{l:List Fact}{x:ae}(h:named (mf s l) x):x∈(s.insts.map (·.id))++(l.map gZ).flatten:=by
 obtain⟨r,hr,hx⟩:=h;unfold mf at hr;rw[List.mem_append,List.mem_append]at hr;rw[List.mem_append];rcases hr with(hr|hr)|hr
 ·obtain⟨i,hi,rfl⟩:=List.mem_map.1 hr;left;rw[List.mem_singleton.1 hx];exact List.mem_map.2 ⟨i,hi,rfl⟩
 ·exact .inr (List.mem_flatten.2 ⟨r,hr,hx⟩)
 ·obtain⟨f,hf,rfl⟩:=List.mem_map.1 hr;obtain⟨f',Ja,nC⟩:=afP hx;exact .inr (List.mem_flatten.2 ⟨_,List.mem_map.2 ⟨f',Ja,rfl⟩,nC⟩)
theorem abt{l:List Fact}{n:Nat}(h:∀f∈l,f.opts.length≤n):(l.map gZ).flatten.length≤l.length*(2+n):=by
 induction l with
 |nil=>simp
 |cons f r ih=>
  have h1:=ih fun g hg=>h g (List.mem_cons_of_mem _ hg);have h2:=JW f;have h3:=h f List.mem_cons_self;rw[List.map_cons,List.flatten_cons,List.length_append,List.length_cons,Nat.add_mul,Nat.one_mul];omega
theorem ZL{s:Setup}{l:List Fact}{u:UM}(hu:gk u (mf s l))(hi:s.insts.length≤1000)(hl:l.length≤500)(ho:∀f∈l,f.opts.length≤1000):u.length≤1000000:=by
 have h1:=List.Nodup.length_le_of_subset hu.nd (l₂:=(s.insts.map (·.id))++(l.map gZ).flatten) (fun x hx=>N' ((hu.keys x).1 hx));have h2:=abt ho;have h3:l.length*(2+1000)≤500*1002:=Nat.mul_le_mul_right _ hl;simp only[aI,List.length_map,List.length_append]at h1;omega
theorem ZM{s:Setup}{l:List Fact}{u:UM}(hu:gk u (mf s l))(hi:∀x∈s.insts,eO x.id)(ho:∀f∈l,∀n∈gG f,eO n):∀k∈aI u,eO k:=fun k hk=>by
 have:=N' ((hu.keys k).1 hk);rcases List.mem_append.1 this with h|h
 ·obtain⟨x,hx,rfl⟩:=List.mem_map.1 h;exact hi x hx
 ·obtain⟨r,hr,hx⟩:=List.mem_flatten.1 h;obtain⟨f,hf,rfl⟩:=List.mem_map.1 hr;exact ho f hf k (afQ.1 hx).1
open Go.Proofs Go.Proofs.Tryz
set_option maxRecDepth 20000
structure ZQ(s:Setup)(l:List Fact)where
 pre:List cK
 rest:List cK
 u:UM
 hx:s.insts=pre++rest
 hu:gk u (pre.map fun x=>[x.id])
structure ZR(s:Setup)(l:List Fact)where
 pre:List Fact
 rest:List Fact
 u:UM
 fm:bu
 hx:l=pre++rest
 hu:gk u ((s.insts.map fun x=>[x.id])++pre.map gZ)
 lU:wJ fm pre
structure ZS(s:Setup)(l:List Fact)(fm:bu)where
 seen:List Nat
 u3:UM
 fB:seen.Nodup
 BY:gk u3 (((s.insts.map fun x=>[x.id])++l.map gZ)++seen.filterMap (yo fm))
theorem ZP(s:Setup)(l:List Fact)(BG:s.insts.length≤1000)(xy:∀x∈s.insts,eO x.id)(BJ:l.length≤500)(j_:∀f∈l,f.opts.length≤1000∧∀s∈gG f,eO s)(hgr:∀u,l_ u→(aI u).Nodup→(∀k∈aI u,eO k)→u.length≤1000000→bh Tryz.prog 105 [.dj 60] [(60,.mp (bZ D.str D.str u))] (xa (jL u)) [(60,.mp (bZ D.str D.str u))]):Fc Tryz.prog 71 [.agg (xb s),qZ l] (xa (sv (mf s l))):=by
 refine bE func71 ntmps71 results71 ?_;refine U.seq<|rg<|.W rfl (oG 0 rfl rfl)<|.ag rfl rfl<|.nil ?_;refine U.bC (Le.h_ 2 0 rfl rfl rfl rfl) ?_;refine U.seq<|rg<|.W rfl (oI 60 D.str (D.str) rfl)<|.W rfl (oI 61 D.str (kH) rfl)<|.ag rfl rfl<|.ag rfl rfl<|.nil<|U.seq<|U.seq<|rg<|.P rfl (oH (n:=0) 65 1 underlying72 sizeOf65 rfl rfl rfl)<|.P rfl (cG isAgg65 rfl)<|.P rfl (cC underlying65 rfl)<|.mv rfl rfl<|.nil<|U.block<|U.loop (ι:=ZQ s l) (fun sx=>[(1,qZ l),(5,.dj 60),(6,.dj 61),(17,uP s.insts),(18,.i s.insts.length),(19,.i sx.pre.length)]) (fun sx=>[(60,.mp (bZ D.str D.str sx.u)),(61,.mp (bZ D.str kH (gY bu.empty)))]) (fun sx=>sx.rest.length) ⟨[],_,[],rfl,UQ⟩ ?_ ?_
 ·exact Le.mk rfl (.n 4 rfl rfl (.cons rfl (Sub.int zS) rfl (.s rfl rfl .nil))) (.eq rfl (by rfl) (g_ _ _) (.cons rfl rfl .nil))
 ·rintro⟨pre,rest,u,hx,hu⟩;dsimp only;rcases lc hx with⟨rfl,hl⟩|⟨x,rest,rfl,hl⟩
  ·skip;refine U.seq<|rg<|.P rfl (bY rfl rfl)<|.nil<|U.seq<|U.fG rfl (by simp at hl⊢;omega)<|U.exit (fc (eY ?_));refine U.seq<|U.seq<|rg<|.mv rfl rfl<|.P rfl (cC underlying86 rfl)<|.mv rfl rfl<|.nil<|U.block<|U.loop (ι:=ZR s l) (fun sx=>[(1,qZ l),(5,.dj 60),(6,.dj 61),(28,qZ l),(29,.i l.length),(30,.i sx.pre.length)]) (fun sx=>([(60,.mp (bZ D.str D.str sx.u)),(61,.mp (bZ D.str kH (gY sx.fm))),(99,.arr 1 [])]++de sx.fm)) (fun sx=>sx.rest.length) ⟨[],_,u,bu.empty,rfl,(by have e:pre=s.insts:=(by simp[hx]);rw[←e];simpa using hu),aa7⟩ ?_ ?_
   ·exact(Le.ij 99 1).trans<|Le.mk rfl (.n 4 rfl rfl (.cons rfl (Sub.int zS) rfl (.s rfl rfl .nil))) (.eq rfl (by rfl) (g_ _ _) (.eq rfl (by rfl) (Ap _ _) (.arr rfl zS (.tail (fun _ _ h=>nomatch (show(none:Option Ob)=some _ from h))))))
   ·rintro⟨pre,rest,u,fm,hx,hu,lU⟩;dsimp only;have hl:=congrArg List.length hx;simp only[List.length_append]at hl;rcases rest with _|⟨x,rest⟩
    ·obtain rfl:l=pre:=by simpa using hx
     refine U.seq<|rg<|.P rfl (bY rfl rfl)<|.nil<|U.seq<|U.fG rfl zS<|U.exit (fc (eY ?_));refine U.seq<|U.seq<|rg<|.mv rfl rfl<|.W rfl (Lw l9 (vD:=kH) 62 underlying180 rfl rfl (y5 (own:=[(60,_),(61,_),(99,_)]) rfl rfl))<|.nil<|U.block<|U.loop (ι:=ZS s l fm) (fun sx=>[(5,.dj 60),(50,.box 62 0)]) (fun sx=>([(62,.mi 61 (gY fm).length sx.seen),(60,.mp (bZ D.str D.str sx.u3)),(61,.mp (bZ D.str kH (gY fm))),(99,.arr 1 [])]++de (mB fm sx.seen))) (fun sx=>yz (gY fm).length sx.seen) ⟨[],u,List.nodup_nil,(by simpa using hu)⟩ ?_ ?_
     ·exact Le.mk rfl (.n 2 rfl rfl .nil) (.cons rfl rfl (.eq rfl (by rfl) (g_ _ _) (.eq rfl (by rfl) (x4 _ _) (.arr rfl zS (.tail (xg (own:=[(62,_),(60,_),(61,_),(99,_)]) (km:=[(62,_),(60,_),(61,_),(99,_)]) _ rfl))))))
     ·rintro⟨seen,u3,fB,BY⟩;dsimp only;refine U.seq (U.wo ?_);refine Tx.n rfl trivial (Lv l9 (vD:=kH) rfl rfl rfl) (fun nb dz=>?_);rcases nb with _|⟨nj,nk,nv⟩
      ·dsimp only[s9,uC,uB];refine Tx.q rfl trivial (iJ rfl rfl _)<|Tx.nil<|U.seq<|U.fG rfl rfl<|U.exit (fc (eY ?_));have hD:=N_ lU dz BY;refine U.seq<|rg<|.mv rfl rfl<|.W rfl (CX (own:=[(62,_),(60,_),(61,_),(99,_)]) call105 rfl (hgr _ hD.rr hD.nd (ZM hD xy (fun f hf=>(j_ f hf).2)) (ZL hD BG BJ (fun f hf=>(j_ f hf).1))) rfl rfl (.cons rfl (g_ _ _) .nil) rfl rfl)<|.ag rfl rfl<|.nil<|U.ret (?_);exact bS rfl (Sub.snap (by(rw[PO (N_ lU dz BY)])))
      ·dsimp only[s9,uC,uB];refine Tx.q rfl trivial (iJ rfl rfl _)<|Tx.nil<|U.seq<|U.iY rfl rfl<|U.skip<|U.block ?_;obtain⟨e,he,rfl,rfl⟩:=OK (And.left dz);have np:(mB fm seen).cL[nj]?=some e:=(Ry _ _ _ (And.right dz)).trans he;have sK:e.live=true:=lU.live e (List.mem_of_getElem? he);refine U.seq<|rg<|.R rfl (Ln l9 (vD:=kH) rfl rfl rfl (And.left dz))<|.P rfl (iJ rfl rfl)<|.ag rfl rfl<|.nil ?_;refine U.bC ((Le.freeze 13 e.id rfl (aa_ (own:=[(62,_),(60,_),(61,_),(99,_)]) rfl np sK) zS).trans (Le.mk (aS:=[(5,_),(13,_),(50,_)]) (ai:=[(62,_),(60,_),(61,_),(99,_)]++de ((mB fm seen).kill nj)) rfl ((.n 3 rfl rfl .nil)) (.cons (Eo (own:=[(62,_),(60,_),(61,_),(99,_)]) 62 np rfl rfl) rfl (.cons (Eo (own:=[(62,_),(60,_),(61,_),(99,_)]) 60 np rfl rfl) (g_ _ _) (.cons (Eo (own:=[(62,_),(60,_),(61,_),(99,_)]) 61 np rfl rfl) (by rw[←Ff];exact x4 _ (seen++[nj])) (.cons (Eo (own:=[(62,_),(60,_),(61,_),(99,_)]) 99 np rfl rfl) rfl (.tail (aba (own:=[(62,_),(60,_),(61,_),(99,_)]) rfl np)))))))) ?_;rw[←Ff];refine rg<|.mv rfl rfl<|.mv rfl rfl<|.W rfl (CX (own:=[(62,_),(60,_),(61,_),(99,_)]) call104 rfl (Rs _ (by exact BY.rr) _) rfl rfl (.cons rfl (g_ _ _) .nil) rfl rfl)<|.nil<|U.nil (dv ?_);refine U.nil (dx ?_);exact⟨⟨seen++[nj],vP u3 e.rows,Gk fB (And.right dz),by rw[ajh he,←List.append_assoc];exact BY.join e.rows⟩,by exact GI ((List.getElem?_eq_some_iff.1 (And.left dz)).1) (And.right dz),Le.mk rfl (.n 2 rfl rfl .nil) (.cons rfl rfl (.eq rfl (by rfl) (g_ _ _) (.eq rfl (by rfl) (x4 _ _) (.arr rfl zS (.tail (xg (own:=[(60,_),(62,_),(61,_),(99,_)]) (km:=[(62,_),(60,_),(61,_),(99,_)]) _ rfl))))))⟩
    ·simp only[List.length_cons]at hl;have JN:=j_ x (by rw[hx];simp);have hpr:∀f∈pre,f.opts.length≤1000:=fun f hf=>(j_ f (by rw[hx];simp[hf])).1;refine U.seq<|rg<|.P rfl (bY rfl rfl)<|.nil<|U.seq<|U.iY rfl zQ<|U.skip<|U.seq<|U.block<|U.seq<|rg<|.P rfl (iR underlying86 sizeOf81 rfl rfl zO (bb ed hx rfl))<|.P rfl (p7 isAgg81 sizeOf81 rfl rfl)<|.W rfl (ln 71 zeroValue81 (y5 (own:=[(60,_),(61,_),(99,_)]) rfl rfl))<|.W rfl (mJ sizeOf81 rfl rfl rfl rfl rfl rfl)<|.nil<|U.seq<|rg<|.R rfl (AA isAgg81 sizeOf81 rfl rfl rfl)<|.P rfl (aj call103 rfl (adQ x (Nat.le_trans (j_ x (by rw[hx];simp)).1 zD) (j_ x (by rw[hx];simp)).2))<|.ag rfl rfl<|.nil<|U.seq<|rg<|.mv rfl rfl<|.mv rfl rfl<|.W rfl (CX (own:=[(71,_),(60,_),(61,_),(99,_)]) call104 rfl (Rs _ (by exact hu.rr) _) rfl rfl (.cons rfl (g_ _ _) .nil) rfl rfl)<|.nil ?_;refine U.bC (Le.h_ 10 71 rfl rfl rfl rfl) ?_
     refine U.qY [.p,.p,.p,.p,.p,.p,.r,.p,.w,.w] mS zK<|.mv rfl rfl<|.P rfl (oH (n:=0) 9 0 underlying81 sizeOf9 rfl rfl rfl)<|.P rfl (cG isAgg9 rfl)<|.mv rfl rfl<|.P rfl (oH (n:=0) 9 0 underlying81 sizeOf9 rfl rfl rfl)<|.P rfl (cG isAgg9 rfl)<|.R rfl (Ug l9 (f:=fm) (k:=x.key) underlying180 zeroValue73 rfl rfl rfl rfl)<|.mv rfl rfl<|.W rfl (T9 (own:=[(60,_),(71,_),(61,_),(99,_)]) (f:=fm) (k:=x.key) (new:=gZ x) (bt:=16) underlying73 underlying73 sizeOf9 typeInfo9 zeroValue9 rfl rfl rfl rfl rfl lU.live rfl rfl (by have:=JW x;have:=JN.1;have:=Y' hpr x.key;rw[lU.rows];omega))<|.W rfl (fb l9 (vD:=kH) (m:=gY fm) (k:=x.key) (v:=(fm.next,(jX fm x.key).length+(gZ x).length)) underlying180 rfl rfl rfl rfl rfl ((H9 (own:=[(60,_),(71,_),(61,_),(99,_)]) zD).trans (CN (own:=[(60,_),(71,_),(61,_),(99,_)]) rfl)))<|.nil<|U.nil (dv ?_);rw[OJ];refine U.bC (Le.ij 99 1) ?_;refine U.bC (Le.mk (aS:=[(1,_),(5,_),(6,_),(28,_),(29,_),(30,_)]) (ai:=[(60,_),(61,_),(99,.arr 1 [])]++de (fm.add x.key (gZ x))) rfl (show du _ _ [(1,_),(5,_),(6,_),(28,_),(29,_),(30,_)]from(.n 6 rfl rfl .nil)) (.eq (H_ (own:=[(60,_),(71,_),(61,_),(99,_)]) 60 rfl rfl rfl) rfl (g_ _ _) (.eq OG rfl (Ap _ _) (.cons rfl rfl (.tail (OM (own:=[(60,_),(71,_),(61,_),(99,_)]) zD rfl)))))) ?_;refine rg<|.P rfl (cn rfl rfl (aB zO))<|.mv rfl rfl<|.nil<|U.nil (dx ?_)
     exact⟨⟨pre++[x],rest,vP u (gZ x),fm.add x.key (gZ x),by simp[hx],by have:=hu.join (gZ x);simpa using this,lU.add x⟩,by simp,Le.mk rfl (.n 5 rfl rfl (.cons rfl (Sub.int zS) rfl .nil)) (.eq rfl (by rfl) (g_ _ _) (.eq rfl (by rfl) (Ap _ _) (.arr rfl zS (.tail (xg (own:=[(60,_),(61,_),(99,_)]) (km:=[(60,_),(61,_),(99,_)]) _ rfl)))))⟩
  ·refine U.seq<|rg<|.P rfl (bY rfl rfl)<|.nil<|U.seq<|U.iY rfl zQ<|U.skip<|U.seq<|U.block<|U.seq<|rg<|.P rfl (iR underlying65 sizeOf77 rfl rfl zO (bb mh hx rfl))<|.P rfl (p7 isAgg77 sizeOf77 rfl rfl)<|.W rfl (ln 70 zeroValue77 rfl)<|.W rfl (mJ sizeOf77 rfl rfl rfl rfl rfl rfl)<|.nil<|rg<|.mv rfl rfl<|.P rfl (bJ (n:=0) 9 0 underlying77 sizeOf9 rfl rfl)<|.R rfl (bP isAgg9 rfl rfl rfl)<|.W rfl (eu call102 rfl (MO _ _) (.cons rfl (g_ _ _) .nil) rfl rfl)<|.nil<|U.nil (dv ?_);refine rg<|.P rfl (cn rfl rfl (aB zO))<|.mv rfl rfl<|.nil<|U.nil (dx ?_);exact⟨⟨pre++[x],rest,dP u x.id,by simp[hx],by have:=hu.add x.id;simpa using this⟩,by simp,Le.mk rfl (.n 5 rfl rfl (.cons rfl (Sub.int zS) rfl .nil)) (.eq rfl (by rfl) (g_ _ _) (.cons rfl rfl .nil))⟩
end Go.T
namespace Go.T
open Go
theorem afv(c d:UInt8)(r s:ae):ae.lt (c::r) (d::s)=(decide (c.toNat<d.toNat)||(decide (c=d)&&ae.lt r s)):=by
 show(decide (c<d)||(c==d&&Op.bytesLess r s))=_;have h1:decide (c<d)=decide (c.toNat<d.toNat):=by simp[UInt8.lt_iff_toNat_lt]
 have h2:(c==d)=decide (c=d):=by rw[Bool.eq_iff_iff];simp
 rw[h1,h2];rfl
theorem Fl:∀a b:ae,ae.lt a b=true↔a<b
 |[],[]=>by simp[ae.lt,Op.bytesLess]
 |[],_::_=>by simp[ae.lt,Op.bytesLess]
 |_::_,[]=>by simp[ae.lt,Op.bytesLess]
 |x::a,y::b=>by
  rw[afv,List.cons_lt_cons_iff];have ih:=Fl a b;simp only[Bool.or_eq_true,Bool.and_eq_true,decide_eq_true_eq,ih];rfl
open Go.Proofs Go.Shelf Go.RowKit Go.Lib Go.Sort
theorem AZ{w:World}{O:Nat→Prop}{b:Nat}:∀(rows:List (List D))(off:Nat),Vr w O b off 1 rows→∀(i:Nat)(d:D),rows[i]?=some [d]→∃u,w.cell? ⟨b,off+i,none⟩=some u∧u.oneCell'=true∧V w O dX d u
 |[],_,_,i,d,h=>by simp at h
 |r::rows,off,hv,0,d,h=>by
  simp only[Vr]at hv;simp only[List.getElem?_cons_zero,Option.some.injEq]at h;subst h;obtain⟨⟨_,h1⟩,_⟩:=hv;simp only[Vc]at h1;obtain⟨⟨u,⟨h2,h3⟩,h4⟩,_⟩:=h1;exact⟨u,h2,h3,h4⟩
 |r::rows,off,hv,i+1,d,h=>by
  simp only[Vr]at hv;have:=AZ rows (off+1) hv.2 i d (by simpa using h);rwa[show off+1+i=off+(i+1) by omega]at this
theorem G6{w:World}{O:Nat→Prop}{b:Nat}:∀(rows:List (List D))(off:Nat),(∀(i:Nat)(r:List D),rows[i]?=some r→∃d u,r=[d]∧w.cell? ⟨b,off+i,none⟩=some u∧u.oneCell'=true∧V w O dX d u)→Vr w O b off 1 rows
 |[],_,_=>by simp[Vr]
 |r::rows,off,h=>by
  simp only[Vr];obtain⟨d,u,rfl,h1,h2,h3⟩:=h 0 r rfl;refine⟨⟨rfl,?_⟩,G6 rows (off+1) fun i r hr=>?_⟩
  ·simp only[Vc];exact⟨⟨u,⟨by simpa using h1,h2⟩,h3⟩,trivial⟩
  ·have:=h (i+1) r (by simpa using hr);rwa[show off+(i+1)=off+1+i by omega]at this
theorem Yx(a b:ae):(dm a b<0)↔a<b:=by
 unfold dm;by_cases h:ae.lt a b=true
 ·rw[if_pos h];exact⟨fun _=>(Fl a b).1 h,fun _=>by decide⟩
 ·rw[if_neg h];constructor
  ·intro h2;split at h2<;>simp at h2
  ·intro h2;exact absurd ((Fl a b).2 h2) h
theorem I9{α:Type}[Inhabited α]{enc:α→Value}{w:World}{bw off m:Nat}{dk:Array α}{os:Array Obj}{b:Nat}(hb:b<w.heap.size)(aG:b≠bw):(sortWorld enc w bw off m dk os).heap[b]?=w.heap[b]?:=by
 unfold sortWorld putRow mapBlock Sort.grow Sort.ahead;simp only;rw[Array.getElem?_append_left (by simpa using hb),Array.getElem?_modify,if_neg (Ne.symm aG)]
theorem acL{α:Type}[Inhabited α]{enc:α→Value}{w:World}{bw off m:Nat}{dk:Array α}{os:Array Obj}{c:Array Value}{T:TypeId}{fr:Nat×Nat}(hb:w.heap[bw]?=some (.cells c T fr)):(sortWorld enc w bw off m dk os).heap[bw]?=some (.cells (putCells enc off dk c) T fr):=by
 have mw:bw<w.heap.size:=(Array.getElem?_eq_some_iff.1 hb).1;unfold sortWorld putRow mapBlock Sort.grow Sort.ahead;simp only;rw[Array.getElem?_append_left (by simpa using mw),Array.getElem?_modify,if_pos rfl,hb];rfl
theorem U8{α:Type}[Inhabited α](enc:α→Value)(w:World)(bw off m:Nat)(dk:Array α)(os:Array Obj):w.heap.size≤(sortWorld enc w bw off m dk os).heap.size:=by
 unfold sortWorld putRow mapBlock Sort.grow Sort.ahead;simp
theorem aj0{P:Program}{f g:Nat}
  (amM:∀{α:Type}[Inhabited α](enc:α→Value)(_:OneCell enc)(cf:α→α→Int)(_:SWO (ltOf cf))(bw off cap:Nat)(d:Array α)(w:World)(_:CmpLays1 P g #[] enc cf bw off d.size w)(_:Holds enc w bw off d)(_:bw<w.heap.size)(_:d.size<4611686018427387904)(_:∀x y,(ltOf cf) x y=false→(ltOf cf) y x=false→x=y),
   Calls P f #[.slice (some ⟨bw,off,none⟩) d.size cap,.func (.func g) #[] #[]] w fun e w'=>e=.returned (.tuple #[])∧∃n os,w'=sortWorld enc w bw off n (d.toList.mergeSort fun x y=>!(ltOf cf) y x).toArray os)
  (agy:∀(p:Option Addr)(cap:Nat)(fv:Value)(w:World),Calls P f #[.slice p 0 cap,fv] w fun e w'=>e=.returned (.tuple #[])∧w'=w)
  {β:Type}(dD:β→D)(key:β→ae)(id:Nat)(r0:D)(l l2:List β)(hl:l.length<4611686018427387904)(hc:∀x∈l,∀y∈l,@Fc calm P g [dD x,dD y] (.i (dm (key x) (key y))))
  (hk:(l.map key).Nodup)(hp:l2.Perm l)(hs:(l2.map key).Pairwise fun a b=>a≤b):
  bh P f [.pZ id 1 l.length,.fn (.func g) [] []] [(id,.arr 1 ([r0]::l.map fun x=>[dD x]))] (.bl []) [(id,.arr 1 ([r0]::l2.map fun x=>[dD x]))]:=⟨fun w O ρ vals af dH hv=>by
 simp only[Vs,V]at hv;obtain⟨v1,us,rfl,⟨aP,cap,jt,rfl,ct⟩,v2,yA,rfl,⟨xs,ys,rfl,vJ,zM⟩,rfl⟩:=hv;obtain rfl:xs=#[]:=by rw[←Array.toArray_toList (xs:=xs),vJ]
 obtain rfl:ys=#[]:=by rw[←Array.toArray_toList (xs:=ys),zM]
 have BK:l2.length=l.length:=hp.length_eq;have fA:aa.get [(id,Ob.arr 1 ([r0]::l.map fun x=>[dD x]))] id=some (.arr 1 ([r0]::l.map fun x=>[dD x])):=by simp[aa.get]
 obtain⟨l',h3,zz,c,T,hb,aY,sH,sO⟩:=af.own id _ fA rfl;rw[jt]at h3;cases h3;have mw:aP.b<w.heap.size:=(Array.getElem?_eq_some_iff.1 hb).1;have lA:Ot O ρ [(id,Ob.arr 1 ([r0]::l.map fun x=>[dD x]))] aP.b:=.inr ⟨id,_,aP,fA,rfl,jt,rfl⟩;by_cases hn:l.length=0
 ·have e1:l=[]:=List.length_eq_zero_iff.1 hn;have e2:l2=[]:=List.length_eq_zero_iff.1 (BK.trans hn);subst e1;subst e2;refine Calls.mono (agy (some ⟨aP.b,aP.off+1,none⟩) cap (.func (.func g) #[] #[]) w) ?_;rintro e w' ⟨rfl,rfl⟩;exact⟨_,ρ,rfl,Tr.refl af,by simp[V,Vs]⟩
 have cells:∀i:Fin l.length,∃u,w.cell? ⟨aP.b,aP.off+1+i.1,none⟩=some u∧u.oneCell'=true∧V w (Ot O ρ [(id,Ob.arr 1 ([r0]::l.map fun x=>[dD x]))]) dX (dD l[i.1]) u:=fun i=>by
  have:=AZ _ _ sO (i.1+1) (dD l[i.1]) zS;rwa[show aP.off+(i.1+1)=aP.off+1+i.1 by omega]at this
 let enc:Fin l.length→Value:=fun i=>Classical.choose (cells i)
 have zp:∀i,w.cell? ⟨aP.b,aP.off+1+i.1,none⟩=some (enc i)∧(enc i).oneCell'=true∧V w (Ot O ρ [(id,Ob.arr 1 ([r0]::l.map fun x=>[dD x]))]) dX (dD l[i.1]) (enc i):=fun i=>Classical.choose_spec (cells i)
 clear_value enc
 haveI:Inhabited (Fin l.length):=⟨⟨0,by omega⟩⟩
 let cf:Fin l.length→Fin l.length→Int:=fun i j=>dm (key l[i.1]) (key l[j.1])
 have bN:∀i j,ltOf cf i j=decide (key l[i.1]<key l[j.1]):=fun i j=>by
  unfold ltOf;rw[decide_eq_decide];exact Yx _ _
 have hd:(Array.ofFn (fun i:Fin l.length=>i)).size=l.length:=Array.size_ofFn ..;have hdj:∀j(h:j<l.length),(Array.ofFn (fun i:Fin l.length=>i))[j]! =⟨j,h⟩:=fun j h=>by
  rw[getElem!_pos _ j (by rw[hd];exact h)];simp
 have I2:CmpLays1 P g #[] enc cf aP.b (aP.off+1) (Array.ofFn fun i:Fin l.length=>i).size w:=by
  intro m os dk _ x y;have zu:Kept w (Ot O ρ [(id,Ob.arr 1 ([r0]::l.map fun x=>[dD x]))]) (sortWorld enc w aP.b (aP.off+1) m dk os) (fun _=>False):=⟨U8 ..,fun b iG ho=>⟨fun o e _=>I9 iG (fun e=>ho (e▸lA)),fun h=>h⟩⟩;have:=@Fc.out calm _ _ _ _ (hc _ (List.getElem_mem (h:=x.2)) _ (List.getElem_mem (h:=y.2))) (sortWorld enc w aP.b (aP.off+1) m dk os) (fun _=>False) dX [enc x,enc y] (fun _ h=>h.elim) (Gl.mono zu dH) (by
   simp only[Vs];exact⟨_,_,rfl,V.mono zu (bO.refl _) _ _ (zp x).2.2,_,_,rfl,V.mono zu (bO.refl _) _ _ (zp y).2.2,rfl⟩)
  refine Calls.mono (by simpa using this) ?_;rintro e w' ⟨v,rfl,hv,hk⟩;simp only[D.i,V]at hv;subst hv;exact⟨rfl,acj hk⟩
 have Rv:=amM enc (fun x=>(zp x).2.1) cf
  ⟨fun x=>by rw[bN];simp[List.lt_irrefl],fun x y z h1 h2=>by rw[bN]at*;simp only[decide_eq_true_eq]at*;exact List.lt_trans h1 h2,fun x y z h1 h2=>by
   rw[bN]at*;simp only[decide_eq_false_iff_not,List.not_lt]at*;exact List.le_trans h2 h1⟩
  aP.b (aP.off+1) cap (Array.ofFn fun i:Fin l.length=>i) w
  I2 (by
   intro j hj;rw[hd]at hj;rw[hdj j hj];exact⟨(zp ⟨j,hj⟩).1,by simp[World.frozen?,hb]⟩) mw (by rw[hd];exact hl)
  (fun x y h1 h2=>by
   rw[bN]at h1 h2;simp only[decide_eq_false_iff_not,List.not_lt]at h1 h2;have e:=List.le_antisymm h2 h1;have h3:(l.map key)[x.1]'(by simp)=(l.map key)[y.1]'(by simp):=by simpa using e
   have hp:=List.pairwise_iff_getElem.1 hk;rcases Nat.lt_trichotomy x.1 y.1 with h4|h4|h4
   ·exact absurd h3 (hp _ _ _ _ h4)
   ·exact Fin.ext h4
   ·exact absurd h3.symm (hp _ _ _ _ h4))
 rw[hd]at Rv;refine Calls.mono Rv ?_;rintro e w' ⟨rfl,n,os,rfl⟩;generalize QX:(Array.ofFn fun i:Fin l.length=>i).toList.mergeSort (fun x y=>!(ltOf cf) y x)=sr;have QO:sr.Perm (Array.ofFn fun i:Fin l.length=>i).toList:=by rw[←QX];exact List.mergeSort_perm _ _
 have qI:sr.length=l.length:=by rw[QO.length_eq];simp
 have eI:((Array.ofFn fun i:Fin l.length=>i).toList.map fun i=>l[i.1])=l:=by
  apply List.ext_getElem
  ·simp
  ·intro i h1 h2;simp
 have hpw:sr.Pairwise fun i j=>key l[i.1]≤key l[j.1]:=by
  have QR:=List.pairwise_mergeSort (le:=fun x y=>!(ltOf cf) y x) (by
   intro a b c h1 h2;rw[bN]at*;simp only[Bool.not_eq_true',decide_eq_false_iff_not,List.not_lt]at*;exact List.le_trans h1 h2) (by
   intro a b;rw[bN,bN];simp only[Bool.or_eq_true,Bool.not_eq_true',decide_eq_false_iff_not,List.not_lt];exact List.le_total _ _) (Array.ofFn fun i:Fin l.length=>i).toList
  rw[QX]at QR;refine QR.imp ?_;intro a b h;rw[bN]at h;simpa only[Bool.not_eq_true',decide_eq_false_iff_not,List.not_lt]using h
 have acV:(sr.map fun i=>l[i.1])=l2:=by
  have QN:(sr.map fun i=>l[i.1]).Perm l2:=by
   have:=QO.map fun i:Fin l.length=>l[i.1];rw[eI]at this;exact this.trans hp.symm
  refine List.Perm.eq_of_pairwise (le:=fun x y=>key x≤key y) (fun a b ha iG h1 h2=>?_) (List.pairwise_map.2 hpw) (List.pairwise_map.1 hs) QN;have e:=List.le_antisymm h1 h2;have sD:a∈l:=hp.mem_iff.1 (QN.mem_iff.1 ha);have rz:b∈l:=hp.mem_iff.1 iG;obtain⟨i,hi,rfl⟩:=List.getElem_of_mem sD;obtain⟨j,hj,rfl⟩:=List.getElem_of_mem rz;have h3:(l.map key)[i]'(by simpa using hi)=(l.map key)[j]'(by simpa using hj):=by simpa using e
  have QQ:=List.pairwise_iff_getElem.1 hk;rcases Nat.lt_trichotomy i j with h4|h4|h4
  ·exact absurd h3 (QQ _ _ _ _ h4)
  ·subst h4;rfl
  ·exact absurd h3.symm (QQ _ _ _ _ h4)
 have zr:=acL (enc:=enc) (off:=aP.off+1) (m:=n) (dk:=sr.toArray) (os:=os) hb;have ud:w.heap.size≤(sortWorld enc w aP.b (aP.off+1) n sr.toArray os).heap.size:=U8 ..;have zE:∀b,b9 ρ [(id,Ob.arr 1 ([r0]::l2.map fun x=>[dD x]))] b→b9 ρ [(id,Ob.arr 1 ([r0]::l.map fun x=>[dD x]))] b:=by
  rintro b ⟨i,o,q,g1,g2,g3,g4⟩;obtain⟨rfl,_⟩:=qt g1;exact⟨_,_,q,fA,rfl,g3,g4⟩
 have zu:Kept w (Ot O ρ [(id,Ob.arr 1 ([r0]::l.map fun x=>[dD x]))]) (sortWorld enc w aP.b (aP.off+1) n sr.toArray os) (Ot O ρ [(id,Ob.arr 1 ([r0]::l2.map fun x=>[dD x]))]):=
  ⟨ud,fun b iG ho=>⟨fun o e _=>I9 iG (fun e=>ho (e▸lA)),fun g=>ho (g.imp _root_.id (zE b))⟩⟩
 refine⟨_,ρ,rfl,⟨bO.refl _,ud,fun b j9 iG=>?_,fun b j9=>.inl (zE b j9),⟨fun b j9=>Nat.lt_of_lt_of_le (af.lt b j9) ud,fun i hi=>?_,fun i o g1 g2=>?_,fun i j o o' q q' g1 g2 _ _ _ _ _=>?_⟩,rfl,rfl,.inl ⟨rfl,Nat.le_add_right _ _⟩⟩,by simp[V,Vs]⟩
 ·refine I9 j9 fun e=>iG ?_;exact⟨id,_,aP,fA,rfl,jt,e.symm⟩
 ·exact af.fresh i (Iy hi)
 ·obtain⟨rfl,rfl⟩:=qt g1;refine⟨aP,jt,zz,_,T,zr,by simpa[putCells]using aY,by simpa[BK]using sH,G6 _ _ fun i r hr=>?_⟩;have I3:aP.off+l.length<c.size:=by
   simp only[List.length_cons,List.length_map]at sH;omega
  have Nl:∀o,(sortWorld enc w aP.b (aP.off+1) n sr.toArray os).cell? ⟨aP.b,o,none⟩=(putCells enc (aP.off+1) sr.toArray c)[o]?:=fun o=>by simp[World.cell?,zr]
  have XW:∀o,w.cell? ⟨aP.b,o,none⟩=c[o]?:=fun o=>by simp[World.cell?,hb]
  cases i with
  |zero=>
   simp only[List.getElem?_cons_zero,Option.some.injEq]at hr;subst hr;obtain⟨u,h1,h2,h3⟩:=AZ _ _ sO 0 r0 rfl;refine⟨r0,u,rfl,?_,h2,V.mono zu (bO.refl _) _ _ h3⟩;rw[Nl,←h1,XW];simp only[putCells,Array.getElem?_mapIdx,Nat.add_zero];have cz:¬(aP.off+1≤aP.off):=by omega
   simp[cz]
  |succ i=>
   simp only[List.getElem?_cons_succ,List.getElem?_map,Option.map_eq_some_iff]at hr;obtain⟨x,hx,rfl⟩:=hr;have hi:i<sr.length:=by
    have:=(List.getElem?_eq_some_iff.1 hx).1;omega
   rw[←acV,List.getElem?_map,List.getElem?_eq_getElem hi]at hx;simp only[Option.map_some,Option.some.injEq]at hx;subst hx;refine⟨_,enc sr[i],rfl,?_,(zp _).2.1,V.mono zu (bO.refl _) _ _ (zp _).2.2⟩;rw[Nl];simp only[putCells,Array.getElem?_mapIdx];rw[Array.getElem?_eq_getElem (show aP.off+(i+1)<c.size by omega)];simp only[Option.map_some,Option.some.injEq];rw[if_pos zQ,show aP.off+(i+1)-(aP.off+1)=i by omega,getElem!_pos _ i (by simpa using hi)];simp
 ·exact(qt g1).1.trans (qt g2).1.symm⟩
end Go.T
namespace Go.T
open Go
variable{P:Program} {env:Env} {dst:Option Tmp} {ty:TypeId} {pos:String} {au:Array Edge} {g:Option (Nat×Bool)}
theorem aiI{J:aa}{t e:TypeId}{x y:Operand}{k:IntKind}{id n m:Nat}{rows:List (List D)}(hu:P.underlying t=some (.slice e))(hs:∀w,(sizeOf e).run P w=.ok 1 w)(hx:env.op x=some (.gs id n))
  (hy:env.op y=some (.raw (.int k 1)))(ho:J.get id=some (.arr 1 rows))(hn:rows.length=n)(hm:n=m+1)(E3:m≠0):
  aq P ⟨dst,.slice t x (some y) none none,ty,pos,au,g⟩ env J (.pZ id 1 m) J:=
 .val fun O ρ a w af hv=>by
  have h1:=hv x (by simp[Op.operands]) _ hx;have h2:=hv y (by simp[Op.operands]) _ hy;simp only[V]at h1 h2;rcases h1 with⟨h1,_⟩|⟨_,l,h3,e1⟩
  ·omega
  ·have sK:(Ob.arr 1 rows).live=true:=by
    cases rows
    ·simp at hn;omega
    ·rfl
   obtain⟨l',g3,g4,c,T,g5,g6,g7,g8⟩:=af.own id _ ho sK;rw[h3]at g3;cases g3;have ct:n≤l.cap:=by omega
   have hb:(Instr.sliceBounds true n l.cap (some (.int k 1)) none none).run P w=.ok (1,n,l.cap) w:=by
    have h1:1≤n:=by omega
    have e1:(1:Int)=((1:Nat):Int):=rfl;rw[e1];simp only[Instr.sliceBounds,Sem.run_bind,Sem.run_pure,Result.andThen_ok,Dd,h1]
   refine⟨.slice (some ⟨l.b,l.off+1,none⟩) m (l.cap-1),?_,?_⟩
   ·simp[execOp,Instr.sliceAt,Instr.slice,cg hu,e1,h2,hb,hs,addr_add];omega
   ·simp only[V];exact⟨l,l.cap-1,h3,rfl,by omega⟩
theorem aiJ{J:aa}{t e:TypeId}{x y:Operand}{k:IntKind}{id n:Nat}{rows:List (List D)}(hu:P.underlying t=some (.slice e))(hs:∀w,(sizeOf e).run P w=.ok 1 w)(hx:env.op x=some (.gs id n))
  (hy:env.op y=some (.raw (.int k 1)))(ho:J.get id=some (.arr 1 rows))(hn:rows.length=n)(hm:n=1):
  aq P ⟨dst,.slice t x (some y) none none,ty,pos,au,g⟩ env J (.snap 1 false []) J:=
 .val fun O ρ a w af hv=>by
  have h1:=hv x (by simp[Op.operands]) _ hx;have h2:=hv y (by simp[Op.operands]) _ hy;simp only[V]at h1 h2;rcases h1 with⟨h1,_⟩|⟨_,l,h3,e1⟩
  ·omega
  ·have sK:(Ob.arr 1 rows).live=true:=by
    cases rows
    ·simp at hn;omega
    ·rfl
   obtain⟨l',g3,g4,c,T,g5,g6,g7,g8⟩:=af.own id _ ho sK;rw[h3]at g3;cases g3;have ct:n≤l.cap:=by omega
   have hb:(Instr.sliceBounds true n l.cap (some (.int k 1)) none none).run P w=.ok (1,n,l.cap) w:=by
    have h1:1≤n:=by omega
    have e1:(1:Int)=((1:Nat):Int):=rfl;rw[e1];simp only[Instr.sliceBounds,Sem.run_bind,Sem.run_pure,Result.andThen_ok,Dd,h1]
   subst hm;refine⟨.slice (if l.cap=1 then some ⟨l.b,l.off,none⟩else some ⟨l.b,l.off+1,none⟩) 0 (l.cap-1),?_,?_⟩
   ·by_cases hc:l.cap=1
    ·rw[hc]at hb;simp[execOp,Instr.sliceAt,Instr.slice,cg hu,e1,h2,hb,hs,addr_add,hc]
    ·simp[execOp,Instr.sliceAt,Instr.slice,cg hu,e1,h2,hb,hs,addr_add,hc]
   ·simp only[V];exact⟨_,_,rfl,⟨by simp,by simp⟩,by simp,by simp⟩
end Go.T
namespace Go.T
open Go Go.Proofs Go.Proofs.Tryz
set_option maxRecDepth 20000
variable[bT]
theorem Ql{l:List ae}(h:l≠[]):(l.map fun s=>[D.str s])[(0:Int).toNat]?=some [.str (l.headD [])]:=by
 cases l with
 |nil=>exact absurd rfl h
 |cons a l=>rfl
theorem Yi(a b:List ae)(ha:a≠[])(hb:b≠[]):Fc Tryz.prog 150 [jN a,jN b] (.i (dm (a.headD []) (b.headD []))):=by
 refine bE func150 ntmps150 results150 ?_;exact go []<|ix zD (Ql ha)<|ix zD (Ql hb)<|oP (aj call29 rfl (sh _ _))<|ord<|an rfl (Sub.refl _)
end Go.T
namespace Go.T
open Go Go.Proofs Go.Proofs.Tryz
set_option maxRecDepth 20000
open Go.Shelf Go.RowKit Go.Lib Go.Sort
theorem aaa:∀args w,(callFunc 150 args).run Tryz.prog w=.ok (.enter 150 args) w:=enters_of func150 (by kernel_rfl) rfl
theorem aj2(id:Nat)(r0:D)(l l2:List (List ae))(hl:l.length<4611686018427387904)(aG:∀x∈l,x≠[])(hk:(l.map (·.headD [])).Nodup)(hp:l2.Perm l)(hs:(l2.map (·.headD [])).Pairwise fun a b=>a≤b):
  bh Tryz.prog 149 [.pZ id 1 l.length,.fn (.func 150) [] []] [(id,.arr 1 ([r0]::l.map fun x=>[jN x]))] (.bl []) [(id,.arr 1 ([r0]::l2.map fun x=>[jN x]))]:=
 aj0 (fun enc h1 cf hO bw off cap d w hc hH hb aY hT=>Tryz.slices_SortFunc_total enc h1 cf hO 150 #[] bw off cap d w aaa hc hH hb aY hT) (fun p cap fv w=>Tryz.slices_SortFunc_none (α:=Nat) p cap fv w)
  (fun x=>jN x) (·.headD []) id r0 l l2 hl (fun x hx y hy=>@Yi calm x y (aG x hx) (aG y hy)) hk hp hs
theorem aj1:Fc Tryz.prog 149 [.snap 1 false [],.fn (.func 150) [] []] (.bl []):=.qP fun w O ρ vals hg hv=>by
 simp only[Vs,V]at hv;obtain⟨_,_,rfl,⟨a,cap,rfl,_⟩,v2,_,rfl,_,rfl⟩:=hv;refine(Tryz.slices_SortFunc_none (α:=Nat) a cap v2 w).mono ?_;rintro e w' ⟨rfl,rfl⟩;exact⟨_,rfl,by simp[V,Vs],.refl _⟩
end Go.T
namespace Go.T
open Go Go.Proofs Go.Proofs.Tryz
set_option maxRecDepth 20000
theorem ajB{n:Nat}{seen:List Nat}(hn:seen.Nodup)(bN:∀j∈seen,j<n):seen.length≤n:=by
 have:=List.Nodup.length_le_of_subset hn (l₂:=List.range n) (fun j hj=>List.mem_range.2 (bN j hj));simpa using this
theorem afw{u:UM}{seen:List Nat}{j:Nat}{kv:ae×ae}(h:u[j]?=some kv)(bN:∀j∈seen,j<u.length):∀i∈seen++[j],i<u.length:=by
 intro i hi;rcases List.mem_append.1 hi with hi|hi
 ·exact bN i hi
 ·simp at hi;subst hi;exact(List.getElem?_eq_some_iff.1 h).1
theorem abF{fm:bu}{u:UM}{ks:List ae}(h:pF fm u ks)(hp:ks.Perm (aI u)){seen:List Nat}(hs:seen.Nodup):(jB fm seen).length≤u.length:=by
 have h1:=List.Nodup.length_le_of_subset (Iu h hp hs) (l₂:=aI u) (fun x hx=>by
  obtain⟨l,hl,rfl⟩:=List.mem_map.1 hx;obtain⟨y,hy,h2,rfl⟩:=Kn h hp hl;rw[Ns hy h2];exact hy)
 simpa[aI]using h1
structure acg(u:UM)where
 seen:List Nat
 fm:bu
 ks:List ae
 fB:seen.Nodup
 bN:∀j∈seen,j<u.length
 uc:ks=seen.filterMap (vQ u)
 lU:pF fm u ks
structure ach(u:UM)(fm:bu)where
 seen:List Nat
 fB:seen.Nodup
theorem acf(u:UM)(hg:l_ u)(hn:(aI u).Nodup)(af:∀k∈aI u,eO k)(k6:u.length≤1000000):bh Tryz.prog 105 [.dj 60] [(60,.mp (bZ D.str D.str u))] (xa (jL u)) [(60,.mp (bZ D.str D.str u))]:=by
 refine xj func105 ntmps105 results105 ?_;refine U.seq<|rg<|.ag rfl rfl<|.nil<|U.seq<|rg<|.W rfl (oI 61 D.str (kH) rfl)<|.ag rfl rfl<|.nil<|U.seq<|U.seq<|rg<|.mv rfl rfl<|.W rfl (Lw l9 (vD:=D.str) 62 underlying179 rfl rfl rfl)<|.nil<|U.block<|U.loop (ι:=acg u) (fun sx=>[(0,.dj 60),(3,.dj 61),(11,.box 62 0)]) (fun sx=>([(62,.mi 60 u.length sx.seen),(60,.mp (bZ D.str D.str u)),(61,.mp (bZ D.str kH (gY sx.fm))),(99,.arr 1 [])]++de sx.fm)) (fun sx=>yz u.length sx.seen) ⟨[],bu.empty,[],List.nodup_nil,by simp,rfl,ack u⟩ ?_ ?_
 ·exact(Le.ij 99 1).trans<|Le.mk rfl (.n 3 rfl rfl .nil) (.cons rfl rfl (.eq rfl (by rfl) (g_ _ _) (.eq rfl (by rfl) (Ap _ _) (.arr rfl zS (.tail (fun _ _ h=>nomatch (show(none:Option Ob)=some _ from h)))))))
 ·rintro⟨seen,fm,ks,fB,bN,uc,lU⟩;dsimp only;have gO:∀r,(jX fm r).length≤1000000:=fun r=>by
    rw[lU.rows r];have h1:=List.length_filter_le (fun k=>decide (aJ u k=r)) ks;have h2:=aet u seen;have h3:=ajB fB bN;rw[uc]at h1⊢;omega
  refine U.seq (U.wo ?_);refine Tx.n rfl trivial (Lv l9 (vD:=D.str) rfl rfl rfl) (fun nb dz=>?_);rcases nb with _|⟨nj,nk,nv⟩
  ·dsimp only[s9,uC,uB];refine Tx.q rfl trivial (iJ rfl rfl _)<|Tx.nil<|U.seq<|U.fG rfl rfl<|U.exit (fc (eY ?_));have pT:ks.Perm (aI u):=by rw[uc];exact aez hn fB dz
   have hrw:∀(j:Nat)(e:FE),fm.cL[j]?=some e→(∀s∈e.rows,eO s)∧e.rows.length≤1000000:=fun j e he=>by
    rw[EK lU he];exact⟨fun s hs=>af s (pT.mem_iff.1 (List.mem_filter.1 hs).1),by have h1:=List.length_filter_le (fun k=>decide (aJ u k=e.key)) ks;have h2:=pT.length_eq;simp only[aI,List.length_map]at h2;omega⟩
   have dH:∀sn:List Nat,sn.Nodup→(jB fm sn).length≤1000000:=fun sn hsn=>Nat.le_trans (abF lU pT hsn) k6;refine U.seq<|rg<|.W rfl (Lm (n:=1) (rows:=[[.raw (.slice none 0 0)]]) 64 underlying82 sizeOf73 rfl rfl rfl zeroValue73 rfl rfl rfl rfl rfl rfl rfl (y5 (own:=[(62,_),(60,_),(61,_),(99,_)]) rfl rfl))<|.ag rfl rfl<|.nil<|U.seq<|U.seq<|rg<|.mv rfl rfl<|.W rfl (Lw l9 (vD:=kH) 63 underlying180 rfl rfl (y5 (own:=[(64,_),(62,_),(60,_),(61,_),(99,_)]) rfl rfl))<|.nil<|U.block<|U.loop (ι:=ach u fm) (fun sx=>[(0,.dj 60),(6,.gs 64 (1+(jB fm sx.seen).length)),(29,.box 63 0)]) (fun sx=>([(63,.mi 61 (gY fm).length sx.seen),(60,.mp (bZ D.str D.str u)),(61,.mp (bZ D.str kH (gY fm))),(64,.arr 1 ([.raw (.slice none 0 0)]::(jB fm sx.seen).map fun x=>[jN x])),(99,.arr 1 [])]++de (mB fm sx.seen))) (fun sx=>yz (gY fm).length sx.seen) ⟨[],List.nodup_nil⟩ ?_ ?_
   ·exact Le.mk rfl (.s rfl rfl (.cons rfl (Sub.gs (by simp[jB])) rfl (.s rfl rfl .nil))) (.cons rfl rfl (.eq rfl (by rfl) (g_ _ _) (.eq rfl (by rfl) (x4 _ _) (.arr rfl (by simp[jB]) (.arr rfl zS (.tail (xg (own:=[(63,_),(64,_),(62,_),(60,_),(61,_),(99,_)]) (km:=[(63,_),(60,_),(61,_),(64,_),(99,_)]) _ rfl)))))))
   ·rintro⟨seen,fB⟩;dsimp only;refine U.seq (U.wo ?_);refine Tx.n rfl trivial (Lv l9 (vD:=kH) rfl rfl rfl) (fun nb dz=>?_);rcases nb with _|⟨nj,nk,nv⟩
    ·dsimp only[s9,uC,uB];refine Tx.q rfl trivial (iJ rfl rfl _)<|Tx.nil<|U.seq<|U.fG rfl rfl<|U.exit (fc (eY ?_));have Jc:=abI lU pT hn fB dz;by_cases hz:(jB fm seen).length=0
     ·have rI:jB fm seen=[]:=List.length_eq_zero_iff.1 hz;have JR:jL u=[]:=List.length_eq_zero_iff.1 (Jc.length_eq.trans hz);refine U.seq<|rg<|.mv rfl rfl<|.R rfl (aiJ (id:=64) underlying82 sizeOf73 rfl rfl rfl zQ zO)<|.P rfl (aj call149 rfl aj1)<|.nil<|U.seq<|rg<|.mv rfl rfl<|.ag rfl rfl<|.nil ?_;refine U.bC (Le.freeze 2 64 rfl rfl zQ) ?_;refine U.ret (?_);exact wq rfl (Sub.snap (by rw[rI,JR])) (.eq rfl (by rfl) (g_ _ _) .nil)
     ·refine U.seq<|rg<|.mv rfl rfl<|.R rfl (aiI (id:=64) (m:=(jB fm seen).length) underlying82 sizeOf73 rfl rfl rfl zQ zO hz)<|.W rfl (CX (own:=[(63,_),(60,_),(61,_),(64,_),(99,_)]) call149 rfl (aj2 64 (.raw (.slice none 0 0)) (jB fm seen) (jL u) (by have:=dH seen fB;omega) (abH lU pT) (Iu lU pT fB) Jc (PR u)) rfl rfl (.cons rfl rfl .nil) rfl rfl)<|.nil<|U.seq<|rg<|.mv rfl rfl<|.ag rfl rfl<|.nil ?_;refine U.bC (Le.freeze 2 64 rfl rfl (by have:=Jc.length_eq;simp;omega)) ?_;refine U.ret (?_);exact wq rfl (Sub.refl _) (.eq rfl (by rfl) (g_ _ _) .nil)
    ·dsimp only[s9,uC,uB];refine Tx.q rfl trivial (iJ rfl rfl _)<|Tx.nil<|U.seq<|U.iY rfl rfl<|U.skip<|U.block ?_;obtain⟨e,he,rfl,rfl⟩:=OK (And.left dz);have np:(mB fm seen).cL[nj]?=some e:=(Ry _ _ _ (And.right dz)).trans he;have xD:e.ob=.arr 1 (tq e.rows):=by unfold FE.ob;rw[if_pos (lU.live e (List.mem_of_getElem? he))]
     have Qn:=hrw nj e he;refine U.seq<|rg<|.R rfl (Ln l9 (vD:=kH) rfl rfl rfl (And.left dz))<|.P rfl (iJ rfl rfl)<|.ag rfl rfl<|.nil<|U.seq<|rg<|.mv rfl rfl<|.W rfl (aid (own:=[(63,_),(60,_),(61,_),(64,_),(99,_)]) (f:=mB fm seen) (e:=e) (List.mem_of_getElem? np) rfl call146 rfl (by rw[xD];exact LQ e.id e.rows Qn.1 (by have:=Qn.2;omega)) (by simp[D.okB.gS,D.okB,aa.has,aa.bf]))<|.nil ?_;refine U.bC (Le.freeze 8 e.id rfl abR (by simp[(oM e.rows).length_eq])) ?_;refine U.bC (Le.mk (aS:=[(0,_),(6,_),(8,_),(29,_)]) (ai:=[(63,_),(60,_),(61,_),(64,_),(99,_)]++de ((mB fm seen).kill nj)) rfl (show du _ _ [(0,_),(6,_),(8,_),(29,_)]from(.n 4 rfl rfl .nil)) (.cons (Bm (own:=[(63,_),(60,_),(61,_),(64,_),(99,_)]) 63 np rfl rfl) rfl (.cons (Bm (own:=[(63,_),(60,_),(61,_),(64,_),(99,_)]) 60 np rfl rfl) (g_ _ _) (.cons (Bm (own:=[(63,_),(60,_),(61,_),(64,_),(99,_)]) 61 np rfl rfl) (by rw[←Ff];exact x4 _ (seen++[nj])) (.cons (Bm (own:=[(63,_),(60,_),(61,_),(64,_),(99,_)]) 64 np rfl rfl) rfl (.cons (Bm (own:=[(63,_),(60,_),(61,_),(64,_),(99,_)]) 99 np rfl rfl) rfl (.tail (abc (own:=[(63,_),(60,_),(61,_),(64,_),(99,_)]) rfl np)))))))) ?_;rw[←Ff];refine rg<|.mv rfl rfl<|.mv rfl rfl<|.P rfl (cm (n:=1) (rows:=[[jN (gh e.rows)]]) underlying82 sizeOf73 rfl rfl rfl zeroValue73 rfl rfl rfl rfl rfl rfl rfl)<|.W rfl (dJ 65 underlying82 underlying82 sizeOf73 typeInfo73 zeroValue73 rfl (bt:=24) rfl rfl rfl rfl zQ rfl (y5 (own:=[(63,_),(60,_),(61,_),(64,_),(99,_)]) rfl rfl) (by have:=dH seen fB;simp;omega))<|.ag rfl rfl<|.nil<|U.nil (dv ?_);refine U.nil (dx ?_)
     exact⟨⟨seen++[nj],Gk fB (And.right dz)⟩,by exact GI ((List.getElem?_eq_some_iff.1 (And.left dz)).1) (And.right dz),(Le.mk (ai:=[(63,_),(60,_),(61,_),(65,_),(99,_)]++de (mB fm (seen++[nj]))) rfl (show du _ _ [(0,_),(6,_),(29,_)]from(.n 3 rfl rfl .nil)) (.cons (i:=63) rfl rfl (.cons (i:=60) rfl (g_ _ _) (.cons (i:=61) rfl (x4 _ _) (.cons (i:=65) rfl rfl (.cons (i:=99) rfl rfl (.tail (xg (own:=[(65,_),(63,_),(60,_),(61,_),(64,_),(99,_)]) (km:=[(63,_),(60,_),(61,_),(65,_),(99,_)]) _ rfl)))))))).trans<|(Le.j4 6 65 64 rfl rfl zQ (y5 (own:=[(63,_),(60,_),(61,_),(65,_),(99,_)]) rfl rfl)).trans<|Le.mk rfl (.s rfl rfl (.cons rfl (Sub.gs (by rw[Pq he];simp;omega)) rfl (.s rfl rfl .nil))) (.cons rfl rfl (.eq rfl (by rfl) (g_ _ _) (.eq rfl (by rfl) (x4 _ _) (.arr rfl (by rw[Pq he];simp) (.arr rfl zS (.tail (xg (own:=[(64,_),(63,_),(60,_),(61,_),(65,_),(99,_)]) (km:=[(63,_),(60,_),(61,_),(64,_),(99,_)]) _ rfl)))))))⟩
  ·dsimp only[s9,uC,uB];refine Tx.q rfl trivial (iJ rfl rfl _)<|Tx.nil<|U.seq<|U.iY rfl rfl<|U.skip<|U.block<|U.seq<|rg<|.R rfl (Ln l9 (vD:=D.str) rfl rfl rfl (And.left dz))<|.P rfl (iJ rfl rfl)<|.ag rfl rfl<|.nil<|U.seq<|rg<|.mv rfl rfl<|.mv rfl rfl<|.W rfl (CX (own:=[(62,_),(60,_),(61,_),(99,_)]) call148 rfl (LF u hg nk (aeu (And.left dz))) rfl rfl (.cons rfl (g_ _ _) .nil) rfl rfl)<|.ag rfl rfl<|.nil<|rg<|.mv rfl rfl<|.mv rfl rfl<|.mv rfl rfl<|.mv rfl rfl<|.R rfl (Ug l9 (f:=fm) (k:=aJ u nk) underlying180 zeroValue73 rfl rfl rfl rfl)<|.mv rfl rfl<|.P rfl (cm (n:=1) (rows:=[[.str nk]]) underlying73 sizeOf9 rfl rfl rfl zeroValue9 rfl rfl rfl rfl rfl rfl rfl)<|.W rfl (T9 (own:=[(60,_),(62,_),(61,_),(99,_)]) (f:=fm) (k:=aJ u nk) (new:=[nk]) (bt:=16) underlying73 underlying73 sizeOf9 typeInfo9 zeroValue9 rfl rfl rfl rfl rfl lU.live rfl rfl (by have:=gO (aJ u nk);simp only[List.length_singleton];omega))<|.W rfl (fb l9 (vD:=kH) (m:=gY fm) (k:=aJ u nk) (v:=(fm.next,(jX fm (aJ u nk)).length+[nk].length)) underlying180 rfl rfl rfl rfl rfl ((H9 (own:=[(60,_),(62,_),(61,_),(99,_)]) zD).trans (CN (own:=[(60,_),(62,_),(61,_),(99,_)]) rfl)))<|.nil<|U.nil (dv ?_);refine U.nil (dx ?_)
   exact⟨⟨seen++[nj],fm.add (aJ u nk) [nk],ks++[nk],Gk fB (And.right dz),afw (And.left dz) bN,by rw[uc,aev (And.left dz)],lU.add nk⟩,by exact GI ((List.getElem?_eq_some_iff.1 (And.left dz)).1) (And.right dz),(Le.ij 99 1).trans<|Le.mk rfl (.n 3 rfl rfl .nil) (.eq (H_ (own:=[(60,_),(62,_),(61,_),(99,_)]) 62 rfl rfl rfl) rfl rfl (.eq (H_ (own:=[(60,_),(62,_),(61,_),(99,_)]) 60 rfl rfl rfl) rfl (g_ _ _) (.eq OG (by rw[←OJ]) (Ap _ _) (.cons rfl rfl (.tail (OM (own:=[(60,_),(62,_),(61,_),(99,_)]) zD rfl))))))⟩
theorem ZO(s:Setup)(l:List Fact)(BG:s.insts.length≤1000)(xy:∀x∈s.insts,eO x.id)(BJ:l.length≤500)(j_:∀f∈l,f.opts.length≤1000∧∀s∈gG f,eO s):Fc Tryz.prog 71 [.agg (xb s),qZ l] (xa (sv (mf s l))):=
 ZP s l BG xy BJ j_ fun u hg hn af k6=>acf u hg hn af k6
structure adp(l:List Fact)(P:Fact→Bool)where
 pre:List Fact
 rest:List Fact
 hx:l=pre++rest
 hp:pre.any P=false
theorem ado(l:List Fact)(f:FuncId)(bx:List D)(ct:D.bk.dw bx=true)(P:Fact→Bool)(fy:∀(args:Array Value)(w:World),(callFunc f args).run Tryz.prog w=.ok (.enter f args) w)(hP:∀x∈l,Fc Tryz.prog f (.agg (ed x)::bx) (.b (P x))):Fc Tryz.prog 96 [qZ l,.fn (.func f) [] bx] (.i (rn P l)):=by
 refine Fc.mk' [4] func96 rfl ntmps96 rfl (by simp[D.bk,D.bk.dw,ct]) rfl (fun t w=>results_tmp results96 t _ w) ?_;refine U.ec 0 rfl (fun hb=>?_);simp only[List.length_map,aH]at hb;refine go []<|U.loop (ι:=adp l P) (fun sx=>[(0,qZ l),(1,.fn (.func f) [] bx),(6,qZ l),(7,.i l.length),(8,.i sx.pre.length)]) (fun sx=>[]) (fun sx=>sx.rest.length) ⟨[],l,rfl,rfl⟩ ?_ ?_
 ·exact Le.mk rfl (.s rfl rfl (.cons rfl (Sub.refl _) (pr ct) (.s rfl rfl (.cons rfl (Sub.int zS) rfl (.s rfl rfl .nil))))) .nil
 ·rintro⟨pre,rest,hx,hp⟩;dsimp only;rcases lc hx with⟨rfl,hl⟩|⟨x,rest,rfl,hl⟩
  ·skip;exact go []<|aQ (by simp at hl⊢;omega)<|go []<|an rfl (Sub.int (by exact vo hx hp))
  ·refine go []<|bM zQ<|ix zO (bb ed hx rfl)<|oP (cR fy rfl rfl (hP x (by rw[hx];simp)))<|br (fun h1=>?_) (fun h1=>?_)
   ·exact an rfl (Sub.int (by exact vp hx hp h1))
   ·exact sd (aB zO)<|nx ⟨pre++[x],rest,by simp[hx],r8 hp h1⟩ zS (Le.mk rfl (.s rfl rfl (.cons rfl (Sub.refl _) (pr ct) (.n 2 rfl rfl (.cons rfl (Sub.int zS) rfl .nil)))) .nil)
theorem YJ(l:List Fact)(f:FuncId)(bx:List D)(ct:D.bk.dw bx=true)(P:Fact→Bool)(fy:∀(args:Array Value)(w:World),(callFunc f args).run Tryz.prog w=.ok (.enter f args) w)(hP:∀x∈l,Fc Tryz.prog f (.agg (ed x)::bx) (.b (P x))):Fc Tryz.prog 68 [qZ l,.fn (.func f) [] bx] (.b (l.any P)):=by
 refine Fc.mk' [4] func68 rfl ntmps68 rfl (by simp[D.bk,D.bk.dw,ct]) rfl (fun t w=>results_tmp results68 t _ w) ?_;exact go []<|oP (aj call96 rfl (ado l f bx ct P fy hP))<|an rfl (Sub.bool (by exact vm P l))
def yD(s:Setup)(l:List Fact):Bool:=!decide (ri s.insts s.wV=0)||l.any (fun f=>decide (mX f≠0))
theorem acb(s:Setup)(l:List Fact)(hs:∀x∈s.insts,rX x)(hf:∀f∈l,qp f)(BG:s.insts.length≤1000)(xy:∀x∈s.insts,eO x.id)(BJ:l.length≤500)(j_:∀f∈l,f.opts.length≤1000∧∀s∈gG f,eO s)(hb:yD s l=false):Fc Tryz.prog 21 [.agg (xb s),qZ l] (.bl [xa (sv (mf s l)),.i 0]):=by
 refine pO func21 ntmps21 results21 ?_;refine go [1] ?_;refine U.bC (Le.h_ 2 0 rfl rfl rfl rfl) ?_;exact go []<|oP (aj call67 rfl (ai8 s hs))<|gP (fun hg=>aj call68 rfl (YJ l _ [] rfl (fun f=>decide (mX f≠0)) call69 (fun f Ja=>WU f (hf f Ja))))<|aQ (by exact hb)<|oP (aj call71 rfl (ZO s l BG xy BJ j_))<|p9 rfl rfl (Sub.refl _) (Sub.refl _)
theorem akp{x y:ae}(h:decide (x≠y)=false):x=y:=by simpa using h
theorem akq{x y:ae}(h:decide (x≠y)=true):x≠y:=by simpa using h
structure aaz(a b:List ae)where
 pre:List ae
 rest:List ae
 av:List ae
 aN:List ae
 hx:a=pre++rest
 hy:b=av++aN
 hp:pre=av
 oq:av.length=pre.length
 lz:aN.length=rest.length
theorem aay(a b:List ae):Fc Tryz.prog 24 [jN a,jN b] (.b (nh a b)):=by
 refine bE func24 ntmps24 results24 ?_;refine U.ec 0 rfl (fun hb=>?_);simp only[List.length_map,aH]at hb;refine U.ec 1 rfl (fun iG=>?_);simp only[List.length_map,aH]at iG;refine go []<|br (fun h1=>?_) (fun h1=>?_)
 ·exact an rfl (Sub.bool (by exact Ej (by have h9:=h1;simp at h9;omega)))
 ·refine U.loop (ι:=aaz a b) (fun sx=>[(0,jN a),(1,jN b),(12,.i a.length),(13,.i sx.pre.length)]) (fun sx=>[]) (fun sx=>sx.rest.length) ⟨[],a,[],b,rfl,rfl,rfl,rfl,by simp at h1;omega⟩ ?_ ?_
  ·exact Le.mk rfl (.n 2 rfl rfl (.cons rfl (Sub.int zS) rfl (.s rfl rfl .nil))) .nil
  ·rintro⟨pre,rest,av,aN,hx,hy,hp,oq,lz⟩;dsimp only;rcases lc hx with⟨rfl,hl⟩|⟨x,rest,rfl,hl⟩
   ·obtain rfl:aN=[]:=List.length_eq_zero_iff.1 (by simpa using lz);exact go []<|aQ (by simp at hl⊢;omega)<|go []<|an rfl (Sub.bool (by exact Ei hx hy hp))
   ·obtain⟨y,aN,rfl⟩:=D1 (n:=rest.length) (by simpa using lz);refine go []<|bM zQ<|ix zO (bb (fun s:ae=>[D.str s]) hx rfl)<|ix zO (bb (fun s:ae=>[D.str s]) hy zO)<|ord<|br (fun h2=>?_) (fun h2=>?_)
    ·exact an rfl (Sub.bool (by exact Ek hx hy oq (akq h2)))
    ·exact sd (aB zO)<|nx ⟨pre++[x],rest,av++[y],aN,by simp[hx],by simp[hy],by rw[hp,akp h2],by simp[oq],by simpa using lz⟩ zS (Le.mk rfl (.n 3 rfl rfl (.cons rfl (Sub.int zS) rfl .nil)) .nil)
end Go.T
namespace Go.T
open Go
abbrev yZ(l:List (List ae)):D:=.snap 1 false (l.map fun v=>[D.snap 1 false (tq v)])
theorem Sub.aje{w:World}{O:Nat→Prop}{b off:Nat}{d d':D}{rows:List (List D)}(s:Sub d d')(h:Vr w O b off 1 ([d]::rows)):Vr w O b off 1 ([d']::rows):=by
 refine G6 _ _ fun i r hr=>?_;cases i with
 |zero=>
  simp only[List.getElem?_cons_zero,Option.some.injEq]at hr;subst hr;obtain⟨u,h1,h2,h3⟩:=AZ _ _ h 0 d rfl;exact⟨d',u,rfl,h1,h2,s.out _ _ _ _ h3⟩
 |succ i=>
  simp only[Vr]at h;simp only[List.getElem?_cons_succ]at hr;have hl:∀(l:List (List D))(o:Nat),Vr w O b o 1 l→∀(i:Nat)(r:List D),l[i]?=some r→∃d,r=[d]:=by
   intro l;induction l with
   |nil=>intro o _ i r h;simp at h
   |cons a l ih=>
    intro o hv i r h;simp only[Vr]at hv;cases i with
    |zero=>simp only[List.getElem?_cons_zero,Option.some.injEq]at h;subst h;exact List.length_eq_one_iff.1 hv.1.1
    |succ i=>exact ih _ hv.2 i r (by simpa using h)
  obtain⟨e,rfl⟩:=hl _ _ h.2 i r hr;obtain⟨u,h1,h2,h3⟩:=AZ _ _ h.2 i e hr;exact⟨e,u,rfl,by rwa[show off+(i+1)=off+1+i by omega],h2,h3⟩
theorem Sub.ab8(gs:List (List ae)):Sub (xa gs) (yZ ([]::gs)):=by
 refine⟨fun w O ρ v h=>?_⟩;simp only[V]at h⊢;obtain⟨a,cap,rfl,h1,h2,h3⟩:=h;refine⟨a,cap,by simp,by simpa using h1,by simp,fun _=>?_⟩;obtain⟨b,off,e,h4,h5⟩:=h3 zS;exact⟨b,off,e,h4,Sub.aje (Sub.nil _ _) h5⟩
open Go.Proofs Go.Proofs.Tryz
set_option maxRecDepth 20000
theorem abY{x y:List ae}(h:(!nh x y)=false):x=y:=by simpa[nh]using h
theorem abZ{x y:List ae}(h:(!nh x y)=true):x≠y:=by simpa[nh]using h
structure aar(a b:List (List ae))where
 pre:List (List ae)
 rest:List (List ae)
 av:List (List ae)
 aN:List (List ae)
 hx:a=pre++rest
 hy:b=av++aN
 hp:pre=av
 oq:av.length=pre.length
 lz:aN.length=rest.length
theorem Oz(a b:List (List ae)):Fc Tryz.prog 23 [.snap 1 false (a.map fun v=>[jN v]),.snap 1 false (b.map fun v=>[jN v]),.fn (.func 24) [] []] (.b (nh a b)):=by
 refine bE func23 ntmps23 results23 ?_;refine U.ec 0 rfl (fun hb=>?_);simp only[List.length_map,aH]at hb;refine U.ec 1 rfl (fun iG=>?_);simp only[List.length_map,aH]at iG;refine go []<|br (fun h1=>?_) (fun h1=>?_)
 ·exact an rfl (Sub.bool (by exact Ej (by have h9:=h1;simp at h9;omega)))
 ·refine U.loop (ι:=aar a b) (fun sx=>[(0,.snap 1 false (a.map fun v=>[jN v])),(1,.snap 1 false (b.map fun v=>[jN v])),(2,.fn (.func 24) [] []),(15,.snap 1 false (a.map fun v=>[jN v])),(16,.i a.length),(17,.i sx.pre.length)]) (fun sx=>[]) (fun sx=>sx.rest.length) ⟨[],a,[],b,rfl,rfl,rfl,rfl,by simp at h1;omega⟩ ?_ ?_
  ·exact Le.mk rfl (.n 4 rfl rfl (.cons rfl (Sub.int zS) rfl (.s rfl rfl .nil))) .nil
  ·rintro⟨pre,rest,av,aN,hx,hy,hp,oq,lz⟩;dsimp only;rcases lc hx with⟨rfl,hl⟩|⟨x,rest,rfl,hl⟩
   ·obtain rfl:aN=[]:=List.length_eq_zero_iff.1 (by simpa using lz);exact go []<|aQ (by simp at hl⊢;omega)<|go []<|an rfl (Sub.bool (by exact Ei hx hy hp))
   ·obtain⟨y,aN,rfl⟩:=D1 (n:=rest.length) (by simpa using lz);refine go []<|bM zQ<|ix zO (bb (fun v:List ae=>[jN v]) hx rfl)<|ix zO (bb (fun v:List ae=>[jN v]) hy zO)<|oP (cR call24 rfl rfl (aay x y))<|br (fun h2=>?_) (fun h2=>?_)
    ·exact an rfl (Sub.bool (by exact Ek hx hy oq (abZ h2)))
    ·exact sd (aB zO)<|nx ⟨pre++[x],rest,av++[y],aN,by simp[hx],by simp[hy],by rw[hp,abY h2],by simp[oq],by simpa using lz⟩ zS (Le.mk rfl (.n 5 rfl rfl (.cons rfl (Sub.int zS) rfl .nil)) .nil)
def Mk:Fact:=⟨[],0,false,0,0,[],[],[],[],[],[],[],⟨[],[]⟩,⟨[],[]⟩,⟨[],[]⟩,[],[],0⟩
def jq(k c:ae):Fact:={Mk with key:=k,day:=20,kind:=3,ie:=c,eX:=[49]}
theorem Ht(k c:ae):Fc Tryz.prog 22 [.str k,.str c] (.agg (ed (jq k c))):=by
 refine Fc.j2 func22 rfl ntmps22 rfl rfl rfl ?_;refine go [99999]<|U.ret (?_);exact Rd.cA results22 isAgg81 sizeOf81 rfl rfl rfl (Sub.agg (.r (.cons (Sub.refl _) (.r (.cons (Sub.refl _) (.r (.cons (Sub.refl _) (.r (.cons (Sub.refl _) (.r (.cons (Sub.refl _) (.r (.cons (Sub.refl _) (.r (.cons (Sub.refl _) (.r (.cons (Sub.refl _) (.r (.cons (Sub.refl _) (.cons ((Sub.nil _ false).trans (Sub.refl _)) (.cons ((Sub.nil _ false).trans (Sub.refl _)) (.r .nil))))))))))))))))))))))
end Go.T
namespace Go.T
open Go
variable[bT]
theorem Fc.res{P:Program}{f:FuncId}{ds:List D}{r r':D}(h:Fc P f ds r)(s:Sub r r'):Fc P f ds r':=
 ⟨fun w O ρ vals hO hg hv=>(h.out w O ρ vals hO hg hv).mono fun _ _ hx=>by
  obtain⟨v,e1,h1,h2⟩:=hx;exact⟨v,e1,s.out _ _ _ _ h1,h2⟩⟩
theorem Wp{w:World}{O:Nat→Prop}{b:Nat}{ds fg:List D}(h:jG ds fg):∀off,Vc w O b off ds→Vc w O b off fg:=by
 induction h with
 |nil=>exact fun _ h=>h
 |cons s _ ih=>
  intro off hv;simp only[Vc]at hv⊢;obtain⟨⟨u,h1,h2⟩,h3⟩:=hv;exact⟨⟨u,h1,s.out _ _ _ _ h2⟩,ih _ h3⟩
theorem jG.len{ds fg:List D}(h:jG ds fg):ds.length=fg.length:=by
 induction h with
 |nil=>rfl
 |cons _ _ ih=>simp[ih]
inductive wO:List (List D)→List (List D)→Prop
 |nil:wO [] []
 |cons {r r':List D} {rs rV:List (List D)} (h:jG r r') (k:wO rs rV):wO (r::rs) (r'::rV)
theorem wO.len{rs rV:List (List D)}(h:wO rs rV):rs.length=rV.length:=by
 induction h with
 |nil=>rfl
 |cons _ _ ih=>simp[ih]
theorem Wq{w:World}{O:Nat→Prop}{b sz:Nat}{rs rV:List (List D)}(h:wO rs rV):∀off,Vr w O b off sz rs→Vr w O b off sz rV:=by
 induction h with
 |nil=>exact fun _ h=>h
 |cons s _ ih=>
  intro off hv;simp only[Vr]at hv⊢;exact⟨⟨s.len▸hv.1.1,Wp s _ hv.1.2⟩,ih _ hv.2⟩
theorem Sub.rows{sz:Nat}{f:Bool}{rs rV:List (List D)}(h:wO rs rV):Sub (.snap sz f rs) (.snap sz false rV):=by
 have hl:=h.len;refine⟨fun w O ρ v hv=>?_⟩;simp only[V]at hv⊢;obtain⟨a,cap,rfl,h1,_,h3⟩:=hv;rw[hl]at h1;refine⟨a,cap,by rw[hl],h1,by simp,fun aG=>?_⟩;obtain⟨b,off,e,h4,h5⟩:=h3 (by
  cases rs with
  |nil=>cases h;exact absurd rfl aG
  |cons=>simp)
 exact⟨b,off,e,h4,Wq h _ h5⟩
end Go.T
namespace Go.T
open Go
theorem UO:∀Ls:List (List ae),∃u,gk u Ls
 |[]=>⟨[],UQ⟩
 |l::Ls=>by obtain⟨u,h⟩:=UO Ls;exact⟨vP u l,UP h l⟩
theorem ace{u:UM}{x:ae}(hx:x∈aI u):∃g∈jL u,∀y,y∈g↔(y∈aI u∧aJ u y=aJ u x):=by
 have aG:((aI u).filter fun y=>decide (aJ u y=aJ u x))≠[]:=List.ne_nil_of_mem (wU hx);obtain⟨h1,h2⟩:=Gm aG;generalize (gh ((aI u).filter fun y=>decide (aJ u y=aJ u x))).headD []=z at h1 h2;obtain⟨h3,h4⟩:=List.mem_filter.1 h1;have h4:aJ u z=aJ u x:=of_decide_eq_true h4;refine⟨mY u z,?_,fun y=>?_⟩
 ·unfold jL;refine List.mem_map.2 ⟨z,Aa.2 ⟨h3,?_⟩,rfl⟩;unfold ow;simp only[List.all_eq_true,decide_eq_true_eq];exact fun y hy e=>h2 y (List.mem_filter.2 ⟨hy,by rw[e,h4];exact decide_eq_true rfl⟩)
 ·unfold mY;rw[xX,List.mem_filter,h4];simp
theorem Ip{gs:List (List ae)}(fB:gs.flatten.Nodup){g g':List ae}(hg:g∈gs)(nr:g'∈gs){x:ae}(hx:x∈g)(nC:x∈g'):g=g':=by
 induction gs with
 |nil=>cases hg
 |cons a r ih=>
  rw[List.flatten_cons,List.nodup_append]at fB;rcases List.mem_cons.1 hg with e|hg<;>rcases List.mem_cons.1 nr with e'|nr
  ·rw[e,e']
  ·exact absurd rfl (fB.2.2 x (e▸hx) x (List.mem_flatten.2 ⟨g',nr,nC⟩))
  ·exact absurd rfl (fB.2.2 x (e'▸nC) x (List.mem_flatten.2 ⟨g,hg,hx⟩))
  ·exact ih fB.2.1 hg nr
theorem abu{gs:List (List ae)}(fB:gs.flatten.Nodup){g:List ae}(hg:g∈gs):g.Nodup:=by
 induction gs with
 |nil=>cases hg
 |cons a r ih=>
  rw[List.flatten_cons,List.nodup_append]at fB;rcases List.mem_cons.1 hg with rfl|hg
  ·exact fB.1
  ·exact ih fB.2.1 hg
theorem PM{Ls gs:List (List ae)}(aG:∀g∈gs,g≠[])(hs:∀g∈gs,g.Pairwise fun a b=>a≤b)(fB:gs.flatten.Nodup)(hh:(gs.map (·.headD [])).Pairwise fun a b=>a≤b)
  (fj:∀r∈Ls,r≠[]→∃g∈gs,∀x∈r,x∈g)(ES:∀g∈gs,∀x∈g,iq Ls (g.headD []) x∧named Ls x):sv Ls=gs:=by
 obtain⟨u,hu⟩:=UO Ls;rw[←PO hu];have Vf:∀{x y:ae},iq Ls x y→x=y∨∃g∈gs,x∈g∧y∈g:=by
  intro x y hc;induction hc with
  |refl x=>exact .inl rfl
  |one hl hx hy=>
   obtain⟨g,hg,h⟩:=fj _ hl (List.ne_nil_of_mem hx);exact .inr ⟨g,hg,h _ hx,h _ hy⟩
  |symm _ ih=>exact ih.imp Eq.symm fun⟨g,a,b,c⟩=>⟨g,a,c,b⟩
  |trans _ _ ih ph=>
   rcases ih with rfl|⟨g,a,b,c⟩
   ·exact ph
   ·rcases ph with rfl|⟨g',a',b',c'⟩
    ·exact .inr ⟨g,a,b,c⟩
    ·obtain rfl:=Ip fB a a' c b';exact .inr ⟨g,a,b,c'⟩
 have nk:∀g∈gs,∀x∈g,x∈aI u:=fun g hg x hx=>(hu.keys x).2 (ES g hg x hx).2
 -- the class of a name of g is g
 have DU:∀g∈gs,∀x∈g,mY u x=g:=by
  intro g hg x hx;refine Gn ?_ (yt _) (hs g hg);refine(oM _).trans ((List.perm_ext_iff_of_nodup (hu.nd.filter _) (abu fB hg)).2 fun y=>?_);rw[List.mem_filter,decide_eq_true_eq];constructor
  ·rintro⟨h1,h2⟩;rcases Vf ((hu.conn y x h1 (nk g hg x hx)).1 h2)with rfl|⟨g',a,b,c⟩
   ·exact hx
   ·rw[Ip fB hg a hx c];exact b
  ·intro hy;exact⟨nk g hg y hy,(hu.conn y x (nk g hg y hy) (nk g hg x hx)).2 ((ES g hg y hy).1.symm.trans (ES g hg x hx).1)⟩
 have hd:∀g∈gs,g.headD []∈g:=fun g hg=>by
  cases g with
  |nil=>exact absurd rfl (aG _ hg)
  |cons a r=>exact List.mem_cons_self
 have n1:(jL u).Nodup:=by
  have:((jL u).map (·.headD [])).Nodup:=by
   rw[IG];exact(oM _).nodup_iff.2 (hu.nd.filter _)
  exact(List.pairwise_map.1 this).imp fun aG e=>aG (by rw[e])
 have n2:gs.Nodup:=by
  clear hs hh fj ES Vf nk DU;induction gs with
  |nil=>exact List.nodup_nil
  |cons a r ih=>
   have h2:=fB;rw[List.flatten_cons,List.nodup_append]at h2;rw[List.nodup_cons];refine⟨fun ha=>?_,ih (fun g hg=>aG g (List.mem_cons_of_mem _ hg)) h2.2.1 (fun g hg=>hd g (List.mem_cons_of_mem _ hg))⟩;have hx:=hd a List.mem_cons_self;exact h2.2.2 _ hx _ (List.mem_flatten.2 ⟨a,ha,hx⟩) rfl
 have hp:(jL u).Perm gs:=(List.perm_ext_iff_of_nodup n1 n2).2 fun g=>by
  constructor
  ·intro hg;unfold jL at hg;obtain⟨x,hx,rfl⟩:=List.mem_map.1 hg;have hx:=(Aa.1 hx).1;obtain⟨r,hr,Q2⟩:=(hu.keys x).1 hx;obtain⟨g,hg,h⟩:=fj r hr (List.ne_nil_of_mem Q2);rw[DU g hg x (h x Q2)];exact hg
  ·intro hg;have h1:=hd g hg;obtain⟨g',nr,hm⟩:=ace (nk g hg _ h1);have:g'=g:=by
    unfold jL at nr;obtain⟨z,hz,rfl⟩:=List.mem_map.1 nr;have sQ:=(Aa.1 hz).1;have JS:z∈mY u z:=by unfold mY;rw[xX];exact wU sQ
    have e:=((hm z).1 JS).2;have:z∈mY u (g.headD []):=by unfold mY;rw[xX];exact List.mem_filter.2 ⟨sQ,decide_eq_true e⟩
    rw[DU g hg _ h1]at this;exact DU g hg z this
   exact this▸nr
 refine List.Perm.eq_of_pairwise (le:=fun x y=>x.headD []≤y.headD []) (fun a b ha hb h1 h2=>?_) (List.pairwise_map.1 (PR u)) (List.pairwise_map.1 hh) hp;have e:=List.le_antisymm h1 h2;have sD:=hp.mem_iff.1 ha;exact Ip fB sD hb (hd a sD) (e▸hd b hb)
def uj(x:ae):cK:={(default:cK)with id:=x,kind:=1,cur:=[69,85,82],Fb:=1}
def qb:Setup:={(default:Setup)with wV:=[⟨[69,85,82],0⟩],insts:=[uj [97],uj [98],uj [99],uj [100]]}
def pD:Fact:={Mk with key:=[115],day:=30,kind:=9,ie:=[97],other:=[98],ratio:=⟨[49],[]⟩}
theorem Ri:gZ pD=[[97],[98]]:=by
 have h1:jg pD=[[97],[98]]:=by decide
 unfold gZ;rw[h1];have h2:gh [[97],[98]]=[[97],[98]]:=Gn (oM _) (yt _) zD;rw[h2];decide
theorem Rg(k:ae)(c:UInt8):gZ (jq k [c])=[[c]]:=by
 have h1:jg (jq k [c])=[[c]]:=by simp[jg,gG,kY,Fg,jq,Mk]
 unfold gZ;rw[h1];have h2:gh [[c]]=[[c]]:=Gn (oM _) (yt _) zS;rw[h2];simp[Lib.compact,Lib.compactUpTo,Lib.keeps]
theorem PQ{Ls gs:List (List ae)}(h:∀g∈gs,g∈Ls)(aG:∀g∈gs,g≠[]):∀g∈gs,∀x∈g,iq Ls (g.headD []) x∧named Ls x:=fun g hg x hx=>⟨.one (h g hg) (by
 cases g with
 |nil=>exact absurd rfl (aG _ hg)
 |cons a r=>exact List.mem_cons_self) hx,⟨g,h g hg,hx⟩⟩
theorem ZC:mf qb [pD,jq [107] [99]]=[[[97]],[[98]],[[99]],[[100]],[[97],[98]],[[99]],[[97],[98]],[[99]]]:=by
 have e1:pD.key=[115]:=rfl;have e2:(jq [107] [99]).key=[107]:=rfl;simp[mf,oc,Ri,Rg,qb,uj,e1,e2]
theorem ab9:sv (mf qb [pD,jq [107] [99]])=[[[97],[98]],[[99]],[[100]]]:=by
 rw[ZC];exact PM zD zD zD zD zD (PQ zD zD)
theorem ZD:mf qb [pD,jq [107] [99],jq [107] [100]]=[[[97]],[[98]],[[99]],[[100]],[[97],[98]],[[99]],[[100]],[[97],[98]],[[99],[100]],[[99],[100]]]:=by
 have e1:pD.key=[115]:=rfl;have e2:∀c,(jq [107] c).key=[107]:=fun _=>rfl;simp[mf,oc,Ri,Rg,qb,uj,e1,e2]
theorem ab':sv (mf qb [pD,jq [107] [99],jq [107] [100]])=[[[97],[98]],[[99],[100]]]:=by
 rw[ZD];exact PM zD zD zD zD zD (PQ zD zD)
set_option maxRecDepth 100000 in
theorem Ts:mX (jq [107] [99])=0:=by decide+kernel
set_option maxRecDepth 100000 in
theorem agV:mX (jq [107] [100])=0:=by decide+kernel
set_option maxRecDepth 100000 in
theorem Tu:mX pD=0:=by decide+kernel
set_option maxRecDepth 100000 in
theorem Tt:ri qb.insts qb.wV=0:=by decide+kernel
theorem anp:yD qb [pD,jq [107] [99]]=false:=by simp[yD,Tt,Ts,Tu]
theorem anq:yD qb [pD,jq [107] [99],jq [107] [100]]=false:=by simp[yD,Tt,Ts,agV,Tu]
end Go.T
