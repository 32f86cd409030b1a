/-
  Contracts of the functions that the statement reaches, and the logic in which they are proved (no condition): parts SpecD23, W111, Core63, Spec18, Spec19, Spec20, Spec21, Law1, Law2, SpecR1, SpecR3, W113, W27, W28, W29, W30, W31, W32, W33, Stab1, Stab2, Stab3, Stab4, SpecJ1, SpecJ2.
-/
import Derived.Test.YtoaceanbddegbaaGreatDoorA16
set_option linter.all false
namespace Go.T
open Go Go.Proofs
structure CE(s:Setup)(l:List Fact):Prop where
 insts:∀x∈s.insts,rX x
 facts:∀f∈l,qp f
 adk:s.insts.length≤1000
 ids:∀x∈s.insts,eO x.id
 abv:l.length≤500
 opts:∀f∈l,f.opts.length≤1000∧∀s∈gG f,eO s
theorem zk{n:Int}{s:ae}(h:gt n s=false):(s.length:Int)≤n:=by simpa[gt]using h
theorem IA{f:cF}(h:Iz f=false):mO f:=by
 simp only[Iz,Bool.or_eq_false_iff]at h;have h1:=zk h.1;have h2:=zk h.2;unfold mO;omega
theorem z1{f:cF}(h:vS f=false):mO f:=by
 simp only[vS,Bool.or_eq_false_iff]at h;have h1:=zk h.1;have h2:=zk h.2;unfold mO;omega
theorem DN{α:Type}{l:List α}{p:α→Bool}(h:l.any p=false){x:α}(hx:x∈l):p x=false:=by
 have:=List.any_eq_false.1 h x hx;simpa using this
theorem adN{x:cK}(h:IB x=false):rX x∧eO x.id:=by
 simp only[IB,Bool.or_eq_false_iff,List.any_cons,List.any_nil]at h;obtain⟨⟨⟨h1,h2⟩,h3⟩,h4,h5,h6,_⟩:=h;refine⟨⟨IA h4,IA h5,IA h6⟩,?_⟩;have:=zk h1;unfold eO aH;omega
theorem OF{f:Fact}(h:EH f=false):qp f∧f.opts.length≤1000∧∀s∈gG f,eO s:=by
 simp only[EH,Bool.or_eq_false_iff]at h;obtain⟨g1,g2,g3,g4⟩:=h;simp only[PH,Bool.or_eq_false_iff,decide_eq_false_iff_not,Nat.not_lt]at g1;obtain⟨⟨⟨⟨⟨⟨⟨⟨⟨⟨a1,a2⟩,a3⟩,a4⟩,a5⟩,a6⟩,a7⟩,a8⟩,a9⟩,Wr⟩,Ws⟩:=g1;have ho:f.opts.length≤10:=by
  simp only[PI,Bool.or_eq_false_iff,decide_eq_false_iff_not]at g2;have:=g2.2;omega
 have zC:∀o∈f.opts,EI o=false:=fun o hx=>DN g4 hx;refine⟨⟨fun p hp=>?_,by omega,by omega,by omega,z1 a9,z1 Wr,z1 Ws,fun o hx=>?_⟩,by omega,fun s hs=>?_⟩
 ·have:=DN g3 hp;simp only[PK,Bool.or_eq_false_iff,decide_eq_false_iff_not]at this;have h2:=this.1;omega
 ·have:=zC o hx;simp only[EI,Bool.or_eq_false_iff]at this;exact⟨z1 this.1.1.2,z1 this.1.2,z1 this.2⟩
 ·unfold gG kY at hs;have b1:=a2;have b2:=a3;rw[List.mem_append]at hs;unfold eO aH;rcases hs with hs|hs
  ·have:s=f.ie∨s=f.other:=by
    split at hs
    ·simpa using hs
    ·exact .inl (by simpa using hs)
   rcases this with rfl|rfl<;>omega
  ·obtain⟨o,hx,rfl⟩:=List.mem_map.1 hs;have:=zC o hx;simp only[EI,Bool.or_eq_false_iff]at this;have:=zk this.1.1.1;omega
theorem anc{l:List Fact}(h:ID l=false):l.length≤8∧∀f∈l,EH f=false:=by
 simp only[ID,PJ,Bool.or_eq_false_iff,decide_eq_false_iff_not]at h;exact⟨by have:=h.1;omega,fun f hf=>DN h.2.2 hf⟩
theorem Ty{s:Setup}{l:List Fact}(h:PL s=false)(h2:ID l=false):CE s l:=by
 obtain⟨v1,v2⟩:=anc h2;simp only[PL,Bool.or_eq_false_iff]at h;have hi:IC s.insts=false:=h.2.1.1.1.1;simp only[IC,Bool.or_eq_false_iff,decide_eq_false_iff_not]at hi;have hx:∀x∈s.insts,rX x∧eO x.id:=fun x hx=>adN (DN hi.1 hx);exact⟨fun x k=>(hx x k).1,fun f hf=>(OF (v2 f hf)).1,by have:=hi.2.2;omega,fun x k=>(hx x k).2,by omega,fun f hf=>(OF (v2 f hf)).2⟩
theorem abW{s:Setup}{l:List Fact}(h:CE s l)(hb:yD s l=false):Fc Tryz.prog 21 [.agg (xb s),qZ l] (.bl [xa (sv (mf s l)),.i 0]):=
 acb s l h.insts h.facts h.adk h.ids h.abv h.opts hb
noncomputable abbrev IH(s:Setup)(l:List Fact):List (List ae):=[]::sv (mf s l)
theorem PF{s:Setup}{l:List Fact}(h:CE s l)(hb:yD s l=false):Fc Tryz.prog 21 [.agg (xb s),qZ l] (.bl [yZ (IH s l),.i 0]):=
 (abW h hb).res (Sub.GH (Sub.ab8 _) (Sub.refl _))
open Go.Proofs.Tryz
set_option maxRecDepth 20000
@[reducible] def Ai:List ae:=[[97],[98],[99],[100]]
theorem agW:CE qb [pD,jq [107] [99]]:=Ty zD zD
theorem agX:CE qb [pD,jq [107] [99],jq [107] [100]]:=Ty zD zD
@[reducible] def LJ:List D:=[.snap 2 true [[.str [69,85,82],.i 0]],.snap 15 false (Ai.map fun x=>mh (uj x)),.raw (.slice none 0 0),.raw (.slice none 0 0),.raw (.slice none 0 0),.raw (.slice none 0 0),.i 0]
@[reducible] def De:List D:=[.str [115],.i 0,.b false,.i 30,.i 9,.str [97],.str [98],.str [],.str [],.str [],.str [],.str [],.str [],.str [],.str [49],.str [],.str [],.str [],.raw (.slice none 0 0),.raw (.slice none 0 0),.i 0]
theorem US:Sub (.agg LJ) (.agg (xb qb)):=.agg (.cons (Sub.tv _ _ _) (.r (.cons (Sub.nil _ _) (.cons (Sub.nil _ _) (.cons (Sub.nil _ _) (.cons (Sub.nil _ _) (.r .nil)))))))
theorem Va:jG De (ed pD):=.cons (Sub.refl _) (.r (.cons (Sub.refl _) (.r (.cons (Sub.refl _) (.r (.cons (Sub.refl _) (.r (.cons (Sub.refl _) (.r (.cons (Sub.refl _) (.r (.cons (Sub.refl _) (.r (.cons (Sub.refl _) (.r (.cons (Sub.refl _) (.r (.cons (Sub.nil _ _) (.cons (Sub.nil _ _) (.r .nil))))))))))))))))))))
theorem jG.refl:∀ds:List D,jG ds ds
 |[]=>.nil
 |_::ds=>.cons (Sub.refl _) (jG.refl ds)
@[reducible] def Ex:List (List ae):=[[],[[97],[98]],[[99]],[[100]]]
@[reducible] def Ey:List (List ae):=[[],[[97],[98]],[[99],[100]]]
theorem ab_:Fc Tryz.prog 21 [.agg LJ,.snap 21 true [De,ed (jq [107] [99])]] (.bl [yZ Ex,.i 0]):=
 ((PF agW anp).sub (.cons US (.cons (Sub.rows (.cons Va (.cons (jG.refl _) .nil))) .nil))).res (Sub.of_eq (by unfold IH;rw[ab9]))
theorem aca:Fc Tryz.prog 21 [.agg LJ,.snap 21 true [De,ed (jq [107] [99]),ed (jq [107] [100])]] (.bl [yZ Ey,.i 0]):=
 ((PF agX anq).sub (.cons US (.cons (Sub.rows (.cons Va (.cons (jG.refl _) (.cons (jG.refl _) .nil)))) .nil))).res (Sub.of_eq (by unfold IH;rw[ab']))
theorem aal:Fc Tryz.prog 23 [yZ Ex,.snap 1 true [[.raw (.slice none 0 0)],[.snap 1 true [[.str [97]],[.str [98]]]],[.snap 1 true [[.str [99]]]],[.snap 1 true [[.str [100]]]]],.fn (.func 24) [] []] (.b true):=
 ((Oz Ex Ex).sub (.r (.cons (Sub.rows (.cons (.cons (Sub.nil _ _) .nil) (.cons (.cons (Sub.tv _ _ _) .nil) (.cons (.cons (Sub.tv _ _ _) .nil) (.cons (.cons (Sub.tv _ _ _) .nil) .nil))))) (.r .nil)))).res (Sub.bool zD)
theorem aam:Fc Tryz.prog 23 [yZ Ey,.snap 1 true [[.raw (.slice none 0 0)],[.snap 1 true [[.str [97]],[.str [98]]]],[.snap 1 true [[.str [99]],[.str [100]]]]],.fn (.func 24) [] []] (.b true):=
 ((Oz Ey Ey).sub (.r (.cons (Sub.rows (.cons (.cons (Sub.nil _ _) .nil) (.cons (.cons (Sub.tv _ _ _) .nil) (.cons (.cons (Sub.tv _ _ _) .nil) .nil)))) (.r .nil)))).res (Sub.bool zD)
structure WR where
 pre:List ae
 rest:List ae
 hx:Ai=pre++rest
theorem M5:Fc Tryz.prog 13 [] (.b true):=by
 refine bE func13 ntmps13 results13 ?_;refine U.seq<|rg<|.ag rfl rfl<|.nil<|U.seq<|rg<|.P rfl (tj (pl:=#[(0,1),(1,1)]) underlying63 zeroValue63 (fun w=>by kernel_rfl) rfl rfl)<|.P rfl (cm (n:=1) (rows:=[[.str [69,85,82],.i 0]]) underlying64 sizeOf63 rfl rfl rfl zeroValue63 rfl rfl rfl rfl rfl rfl rfl)<|.P rfl (tj (pl:=#[(0,1),(1,1),(2,1),(3,2),(5,1),(6,1)]) underlying72 zeroValue72 (fun w=>by kernel_rfl) rfl rfl)<|.W rfl (ln 0 zeroValue72 rfl)<|.W rfl (mJ sizeOf72 rfl rfl rfl rfl rfl rfl)<|.nil<|U.seq<|U.seq<|rg<|.P rfl (cm (n:=4) (rows:=[[.str [97]],[.str [98]],[.str [99]],[.str [100]]]) underlying73 sizeOf9 rfl rfl rfl zeroValue9 rfl rfl rfl rfl rfl rfl rfl)<|.P rfl (cC underlying73 rfl)<|.mv rfl rfl<|.nil<|U.block<|U.loop (ι:=WR) (fun sx=>[(1,.box 0 0),(12,.snap 1 true (Ai.map fun s=>[.str s])),(13,.i Ai.length),(14,.i sx.pre.length)]) (fun sx=>[(0,.cells [.snap 2 true [[.str [69,85,82],.i 0]],.gs 1 sx.pre.length,.raw (.slice none 0 0),.raw (.slice none 0 0),.raw (.slice none 0 0),.raw (.slice none 0 0),.i 0]),(1,.arr 15 (sx.pre.map fun x=>mh (uj x)))]) (fun sx=>sx.rest.length) ⟨[],Ai,rfl⟩ ?_ ?_
 ·exact(Le.ij 1 15).trans<|(Le.eP 0 1 rfl rfl (Sub.qv _)).trans<|Le.mk rfl (.n 4 rfl rfl .nil) (.cons rfl rfl (.arr rfl zS .nil))
 ·rintro⟨pre,rest,hx⟩;dsimp only;have hl:=congrArg List.length hx;simp only[List.length_append]at hl;have xB:pre.length+rest.length=4:=by have h9:=congrArg List.length hx;simp at h9;omega
  rcases rest with _|⟨x,rest⟩
  ·obtain rfl:pre=Ai:=by simpa using hx.symm
   refine U.seq<|rg<|.P rfl (bY rfl rfl)<|.nil<|U.seq<|U.fG rfl zS<|U.exit (fc (eY ?_));refine U.seq<|rg<|.P rfl (tj (pl:=#[(0,1),(1,1)]) underlying75 zeroValue75 (fun w=>by kernel_rfl) rfl rfl)<|.P rfl (tj (pl:=#[(0,1),(1,1),(2,1),(3,1),(4,1),(5,1),(6,1),(7,1),(8,1),(9,1),(10,1),(11,1),(12,2),(14,2),(16,2),(18,1),(19,1),(20,1)]) underlying81 zeroValue81 (fun w=>by kernel_rfl) rfl rfl)<|.W rfl (ln 2 zeroValue81 rfl)<|.W rfl (mJ sizeOf81 rfl rfl rfl rfl rfl rfl)<|.nil ?_;refine U.bC (Le.Is 0 1 1 rfl rfl rfl zS) ?_;refine U.bC (Le.h_ 1 0 rfl rfl rfl rfl) ?_;refine U.bC (Le.h_ 4 2 rfl rfl rfl rfl) ?_;refine U.seq (U.qY [.p,.p,.p,.p,.p,.p,.p,.p,.p,.p] mS zK ?_);refine .P rfl (p7 isAgg72 sizeOf72 rfl rfl)<|.P rfl (p7 isAgg81 sizeOf81 rfl rfl)<|.P rfl (aj call22 rfl (Ht _ _))<|.P rfl (cm (n:=2) (rows:=[De,ed (jq [107] [99])]) underlying86 sizeOf81 rfl rfl rfl zeroValue81 rfl rfl rfl rfl rfl rfl rfl)<|.P rfl (aj call21 rfl ab_)<|.mv rfl rfl<|.P rfl (iJ rfl rfl)<|.P rfl (iJ rfl rfl)<|.ag rfl rfl<|.ag rfl rfl<|.nil<|U.seq (U.qY [.p,.p,.p,.p,.p,.p,.p,.p,.p,.p,.p] mS zK ?_);refine .P rfl (p7 isAgg72 sizeOf72 rfl rfl)<|.P rfl (p7 isAgg81 sizeOf81 rfl rfl)<|.P rfl (aj call22 rfl (Ht _ _))<|.P rfl (aj call22 rfl (Ht _ _))<|.P rfl (cm (n:=3) (rows:=[De,ed (jq [107] [99]),ed (jq [107] [100])]) underlying86 sizeOf81 rfl rfl rfl zeroValue81 rfl rfl rfl rfl rfl rfl rfl)<|.P rfl (aj call21 rfl aca)<|.mv rfl rfl<|.P rfl (iJ rfl rfl)<|.P rfl (iJ rfl rfl)<|.ag rfl rfl<|.ag rfl rfl<|.nil<|U.seq (U.cH [.p,.p,.p,.p,.p,.p,.p,.p,.p,.p,.p,.p,.p,.p,.p,.p,.p,.p,.p,.p,.p,.p] ?_)
   refine .mv rfl rfl<|.P rfl (l5 rfl rfl)<|.mv rfl rfl<|.gT rfl (.inl rfl) rfl rfl rfl (fun hg=>pk (fun _=>bG rfl _))<|.gT rfl (.inl rfl) rfl rfl rfl (fun hg=>pk (fun _=>l5 (bI rfl hg) rfl _))<|.P rfl (kN rfl rfl)<|.mv rfl rfl<|.gT rfl (.inl rfl) rfl rfl rfl (fun hg=>pk (fun _=>bG rfl _))<|.gT rfl (.inl rfl) rfl rfl rfl (fun hg=>pk (fun _=>cm (n:=2) (rows:=[[.str [97]],[.str [98]]]) underlying73 sizeOf9 rfl rfl rfl zeroValue9 rfl rfl rfl rfl rfl rfl rfl _))<|.gT rfl (.inl rfl) rfl rfl rfl (fun hg=>pk (fun _=>cm (n:=1) (rows:=[[.str [99]]]) underlying73 sizeOf9 rfl rfl rfl zeroValue9 rfl rfl rfl rfl rfl rfl rfl _))<|.gT rfl (.inl rfl) rfl rfl rfl (fun hg=>pk (fun _=>cm (n:=1) (rows:=[[.str [100]]]) underlying73 sizeOf9 rfl rfl rfl zeroValue9 rfl rfl rfl rfl rfl rfl rfl _))<|.gT rfl (.inl rfl) rfl rfl rfl (fun hg=>pk (fun _=>cm (n:=4) (rows:=[[.raw (.slice none 0 0)],[.snap 1 true [[.str [97]],[.str [98]]]],[.snap 1 true [[.str [99]]]],[.snap 1 true [[.str [100]]]]]) underlying82 sizeOf73 rfl rfl rfl zeroValue73 rfl rfl rfl rfl rfl rfl rfl _))<|.gT rfl (.inl rfl) rfl rfl rfl (fun hg=>pk (fun _=>aj call23 (cB (bI rfl hg) (cB (bI rfl hg) (cB rfl (rfl)))) aal _))<|.P rfl (kN rfl rfl)<|.mv rfl rfl<|.gT rfl (.inl rfl) rfl rfl rfl (fun hg=>pk (fun _=>bG rfl _))<|.gT rfl (.inl rfl) rfl rfl rfl (fun hg=>pk (fun _=>cm (n:=2) (rows:=[[.str [97]],[.str [98]]]) underlying73 sizeOf9 rfl rfl rfl zeroValue9 rfl rfl rfl rfl rfl rfl rfl _)) ?_
   refine .gT rfl (.inl rfl) rfl rfl rfl (fun hg=>pk (fun _=>cm (n:=2) (rows:=[[.str [99]],[.str [100]]]) underlying73 sizeOf9 rfl rfl rfl zeroValue9 rfl rfl rfl rfl rfl rfl rfl _))<|.gT rfl (.inl rfl) rfl rfl rfl (fun hg=>pk (fun _=>cm (n:=3) (rows:=[[.raw (.slice none 0 0)],[.snap 1 true [[.str [97]],[.str [98]]]],[.snap 1 true [[.str [99]],[.str [100]]]]]) underlying82 sizeOf73 rfl rfl rfl zeroValue73 rfl rfl rfl rfl rfl rfl rfl _))<|.gT rfl (.inl rfl) rfl rfl rfl (fun hg=>pk (fun _=>aj call23 (cB (bI rfl hg) (cB (bI rfl hg) (cB rfl (rfl)))) aam _))<|.P rfl (kN rfl rfl)<|.ag rfl rfl<|.nil<|U.ret (?_);exact bS rfl (Sub.refl _)
  ·simp only[List.length_cons]at hl;simp only[List.length_cons]at xB;refine U.seq<|rg<|.P rfl (bY rfl rfl)<|.nil<|U.seq<|U.iY rfl zQ<|U.skip<|U.seq<|U.block<|U.seq<|rg<|.P rfl (iR underlying73 sizeOf9 rfl rfl zO (bb (fun s:ae=>[D.str s]) hx rfl))<|.P rfl (cG isAgg9 rfl)<|.ag rfl rfl<|.nil<|rg<|.P rfl (bJ (n:=0) 65 1 underlying72 sizeOf65 rfl rfl)<|.R rfl (bP isAgg65 rfl rfl rfl)<|.mv rfl rfl<|.P rfl (tj (pl:=#[(0,1),(1,1),(2,1),(3,1),(4,1),(5,1),(6,2),(8,2),(10,1),(11,1),(12,1),(13,2)]) underlying77 zeroValue77 (fun w=>by kernel_rfl) rfl rfl)<|.P rfl (cm (n:=1) (rows:=[mh (uj x)]) underlying65 sizeOf77 rfl rfl rfl zeroValue77 rfl rfl rfl rfl rfl rfl rfl)<|.W rfl (dJ 2 underlying65 underlying65 sizeOf77 typeInfo77 zeroValue77 rfl (bt:=192) rfl rfl rfl rfl zS rfl rfl zQ)<|.P rfl (bJ (n:=0) 65 1 underlying72 sizeOf65 rfl rfl)<|.W rfl (qX sizeOf65 rfl rfl rfl rfl zS)<|.nil<|U.nil (dv ?_);refine rg<|.P rfl (cn rfl rfl (aB zO))<|.mv rfl rfl<|.nil<|U.nil (dx ?_);exact⟨⟨pre++[x],rest,by simp[hx]⟩,by simp,(Le.mk (ai:=[(0,_),(2,_)]) rfl (show du _ _ [(1,_),(12,_),(13,_),(14,_)]from(.n 4 rfl rfl .nil)) (.cons (i:=0) rfl rfl (.cons (i:=2) rfl rfl .nil))).trans<|(Le.Ut 0 1 2 1 rfl rfl rfl zS rfl).trans<|Le.mk rfl (.n 3 rfl rfl (.cons rfl (Sub.int zS) rfl .nil)) (.eq rfl zS rfl (.arr rfl zS .nil))⟩
end Go.T
namespace Go.T
open Go
variable[bT] {P:Program} {dst:Option Tmp} {ty:TypeId} {pos:String} {au:Array Edge} {g:Option (Nat×Bool)} {env:Env}
theorem F4{t e:TypeId}{z:Value}{x:Operand}{d:D}(hu:P.underlying t=some (.slice e))(hs:∀w,(sizeOf e).run P w=.ok 1 w)(hz:∀w,(zeroValue e).run P w=.ok z w)(hx:env.op x=some d)(hc:d.jr=[d])(h1:d.one=true)(hk:d.nO=true)(hp:d.bk=true)(J:aa):
  aq P ⟨dst,.buildSlice t 1 #[(0,x)],ty,pos,au,g⟩ env J (.snap 1 true [[d]]) J:=by
 refine cm (n:=1) (xs:=[(0,x)]) (dV:=[(0,d)]) (cs:=[d]) (rows:=[[d]]) hu hs rfl rfl rfl hz (by simp[Env.qU,hx]) ?_ rfl rfl rfl (by simp[oD,h1]) (by simp[D.bk.dw,hp]) J;have hlen:(((List.range (1*1)).map fun x=>(z.cells.toList[x%z.cells.toList.length]?).getD default).map mK).length=1:=by simp
 generalize (((List.range (1*1)).map fun x=>(z.cells.toList[x%z.cells.toList.length]?).getD default).map mK)=zs at hlen;obtain⟨a,rfl⟩:=List.length_eq_one_iff.1 hlen;unfold oh;simp[hc,hk,mN,oh];rfl
end Go.T
namespace Go.T
open Go
theorem Z4{s:ae}(h:s.head?≠some 48):ff s=s:=by
 cases s with
 |nil=>rfl
 |cons c r=>
  have:c≠48:=by simpa using h
  exact w5 (by intro⟨_,e⟩;exact this (UInt8.toNat_inj.1 (by simpa using e)))
theorem Zy(s:ae):(digits s).1=iP (natVal (digits s).1):=Ky (pM s) (Z4 (D7 s))
theorem afx(c d:UInt8)(r s:ae):ae.lt (c::r) (d::s)=(decide (c.toNat<d.toNat)||(decide (c=d)&&ae.lt r s)):=by
 show(decide (c<d)||(c==d&&Op.bytesLess r s))=_;have h1:decide (c<d)=decide (c.toNat<d.toNat):=by simp[UInt8.lt_iff_toNat_lt]
 have h2:(c==d)=decide (c=d):=by rw[Bool.eq_iff_iff];simp
 rw[h1,h2];rfl
theorem Kz(c:UInt8)(r:ae):natVal (c::r)=(c.toNat-48)*10^r.length+natVal r:=by
 have e:natVal (c::r)=natVal ([c]++r):=rfl;rw[e,v7];simp[natVal]
theorem Kd:∀(a b:ae),a.length=b.length→a.all dh=true→b.all dh=true→(ae.lt a b=true↔natVal a<natVal b)
 |[],[],_,_,_=>by simp[ae.lt,Op.bytesLess,natVal]
 |[],_::_,h,_,_=>by simp at h
 |_::_,[],h,_,_=>by simp at h
 |c::r,d::s,h,ha,hb=>by
  simp only[List.length_cons,Nat.add_right_cancel_iff]at h;simp only[List.all_cons,Bool.and_eq_true]at ha hb;have ih:=Kd r s h ha.2 hb.2;have hr:=s8 r ha.2;have hs:=s8 s hb.2;rw[afx,Kz,Kz,h]at*;have hc:48≤c.toNat:=by have:=ha.1;simp[dh]at this;omega
  have hd:48≤d.toNat:=by have:=hb.1;simp[dh]at this;omega
  simp only[Bool.or_eq_true,Bool.and_eq_true,decide_eq_true_eq];rcases Nat.lt_trichotomy c.toNat d.toNat with g|g|g
  ·have:=Nat.mul_le_mul_right (10^s.length) (show c.toNat-48+1≤d.toNat-48 by omega);rw[Nat.add_mul,Nat.one_mul]at this;constructor
   ·intro _;omega
   ·intro _;exact .inl g
  ·have e:c=d:=UInt8.toNat_inj.1 g;subst e;simp only[Nat.lt_irrefl,false_or,true_and,ih];omega
  ·have:=Nat.mul_le_mul_right (10^s.length) (show d.toNat-48+1≤c.toNat-48 by omega);rw[Nat.add_mul,Nat.one_mul]at this;constructor
   ·rintro(h|h)
    ·omega
    ·have:=h.1;subst this;omega
   ·intro _;omega
theorem KA{d:ae}(hd:d.all dh=true)(h0:d.head?≠some 48)(hn:d.length≠0):10^(d.length-1)≤natVal d:=by
 cases d with
 |nil=>simp at hn
 |cons c r=>
  rw[Kz];simp only[List.all_cons,Bool.and_eq_true]at hd;have hc:48≤c.toNat:=by have:=hd.1;simp[dh]at this;omega
  have:c.toNat≠48:=fun e=>by simp at h0;exact h0 (UInt8.toNat_inj.1 e)
  have:=Nat.mul_le_mul_right (10^r.length) (show 1≤c.toNat-48 by omega);simp only[List.length_cons,Nat.add_sub_cancel];omega
theorem Ta{a b:ae}(ha:a.all dh=true)(hb:b.all dh=true)(h0:b.head?≠some 48)(h:a.length<b.length):natVal a<natVal b:=by
 have h1:=s8 a ha;have h2:=KA hb h0 zO;have h3:10^a.length≤10^(b.length-1):=Nat.pow_le_pow_right zO zO;omega
theorem Tl(a b:ae):kl a b=jf (val a-val b):=by
 have da:=pM a;have db:=pM b;have ha:=D7 a;have hb:=D7 b;have na:(digits a).2=true→0<natVal (digits a).1:=fun h=>by
  have:=D8 a h;have e:(digits a).1.length≠0:=by intro e;apply this;rw[List.length_eq_zero_iff.1 e,tX];rfl
  exact Nat.lt_of_lt_of_le (Nat.pow_pos zO) (KA da ha e)
 have nb:(digits b).2=true→0<natVal (digits b).1:=fun h=>by
  have:=D8 b h;have e:(digits b).1.length≠0:=by intro e;apply this;rw[List.length_eq_zero_iff.1 e,tX];rfl
  exact Nat.lt_of_lt_of_le (Nat.pow_pos zO) (KA db hb e)
 have key:(natVal (digits a).1<natVal (digits b).1↔(digits a).1.length<(digits b).1.length∨((digits a).1.length=(digits b).1.length∧ae.lt (digits a).1 (digits b).1=true))∧
   (natVal (digits b).1<natVal (digits a).1↔(digits b).1.length<(digits a).1.length∨((digits a).1.length=(digits b).1.length∧ae.lt (digits b).1 (digits a).1=true)):=by
  rcases Nat.lt_trichotomy (digits a).1.length (digits b).1.length with g|g|g
  ·have:=Ta da db hb g;constructor<;>constructor<;>intro h<;>omega
  ·rw[Kd _ _ g da db,Kd _ _ g.symm db da];constructor<;>constructor<;>intro h<;>omega
  ·have:=Ta db da ha g;constructor<;>constructor<;>intro h<;>omega
 unfold kl jf val;cases hna:(digits a).2<;>cases dz:(digits b).2<;>simp only[hna,dz]at na nb⊢<;>simp only[ne_eq,not_true,if_false,Bool.false_eq_true,if_true,not_false_iff,reduceCtorEq]<;>(repeat' split)<;>grind
theorem Xv(s:ae):canon s=ofInt (val s):=by
 have h1:=Zy s;have h2:=D8 s;unfold canon val ofInt;cases h:(digits s).2 with
 |true=>
  have:natVal (digits s).1≠0:=fun e=>by
   rw[e,nM]at h1;exact h2 h (by rw[h1,tX];rfl)
  simp only[if_true];rw[if_pos zO,Int.natAbs_neg,Int.natAbs_natCast,←h1]
 |false=>
  simp only[Bool.false_eq_true,if_false];rw[if_neg zO,Int.natAbs_natCast,←h1]
@[reducible] def encI(l:List Nat):List (List D):=l.map fun(n:Nat)=>[D.i (n:Int)]
@[reducible] def sI(l:List Nat):D:=.snap 1 false (encI l)
theorem adj{l:List Nat}{n:Int}{k:Nat}(h:k<l.length)(hn:n=(k:Int)):(encI l)[n.toNat]?=some [D.i (nth l k:Int)]:=by
 subst hn;simp[encI,Tj h]
theorem E_{l pre rest:List Nat}{n:Int}(h:l=pre++rest)(h0:0<pre.length)(hn:n=(pre.length:Int)-1):(encI l)[n.toNat]?=some [D.i (dA pre:Int)]:=E9 (fun(n:Nat)=>[D.i (n:Int)]) h h0 hn
theorem agz(l:List Nat)(k:Nat):lY l k=nth l k:=by simp[lY,nth,List.getD_eq_getElem?_getD]
theorem CA{l:List Nat}{k:Nat}(h:l.length≤k):nth l k=0:=by simp[nth,List.getElem?_eq_none h]
theorem ME{a b:Nat}(h:a+b<9223372036854775808):IntKind.i64.wrap ((a:Int)+(b:Int))=((a+b:Nat):Int):=by
 rw[←Int.natCast_add];exact aW zO zO
theorem aiL{a:Nat}(h:a<9223372036854775808):IntKind.i64.wrap ((a:Int).tdiv 1000000000)=((a/gB:Nat):Int):=by
 have e:(a:Int).tdiv 1000000000=((a/gB:Nat):Int):=by
  rw[Int.tdiv_eq_ediv_of_nonneg zO];unfold gB;omega
 rw[e];have:a/gB≤a:=Nat.div_le_self _ _;generalize a/gB=q at this⊢;exact aW zO zO
def j3(x y:List Nat):Int:=if decide ((x.length:Int)≠y.length)=true then(if decide ((x.length:Int)<y.length)=true then -1 else 1)else jz x.reverse y.reverse
theorem ahc{x y:List Nat}(h:decide ((x.length:Int)≠y.length)=true)(h2:decide ((x.length:Int)<y.length)=true):-1=j3 x y:=by rw[j3,if_pos h,if_pos h2]
theorem ahd{x y:List Nat}(h:decide ((x.length:Int)≠y.length)=true)(h2:decide ((x.length:Int)<y.length)=false):1=j3 x y:=by rw[j3,if_pos h,if_neg (by rw[h2];simp)]
theorem ahe{x y:List Nat}(h:decide ((x.length:Int)≠y.length)=false):j3 x y=jz x.reverse y.reverse:=by rw[j3,if_neg (by rw[h];simp)]
theorem Nv:∀a b:List Nat,-1≤jz a b∧jz a b≤1
 |[],b=>by simp[jz]
 |a::x,[]=>by simp[jz]
 |a::x,b::y=>by
  simp only[jz];split
  ·omega
  ·split
   ·omega
   ·exact Nv x y
theorem ahf(m n:Nat):j3 (ak m) (ak n)=jf ((m:Int)-n):=by
 have h:=DX (ek m) (ek n) (vU m) (vU n);rw[gI,gI]at h;have hb:=Nv (ak m).reverse (ak n).reverse;have e:(j3 (ak m) (ak n)<0↔m<n)∧(0<j3 (ak m) (ak n)↔n<m)∧-1≤j3 (ak m) (ak n)∧j3 (ak m) (ak n)≤1:=by
  unfold j3;unfold js at h;by_cases k:(ak m).length=(ak n).length
  ·rw[if_neg (by simpa using k)]at h;rw[if_neg zQ];exact⟨h.1,h.2,hb⟩
  ·rw[if_pos k]at h;rw[if_pos (by simpa using fun e=>k zO)];by_cases k2:((ak m).length:Int)<(ak n).length
   ·rw[if_pos (by simpa using k2)];refine⟨⟨fun _=>h.1.1 zO,fun _=>by omega⟩,⟨fun k=>by omega,fun k=>?_⟩,by omega,by omega⟩;have:=h.2.2 k;omega
   ·rw[if_neg (by simpa using k2)];refine⟨⟨fun k=>by omega,fun k=>?_⟩,⟨fun _=>h.2.1 zO,fun _=>by omega⟩,by omega,by omega⟩;have:=h.1.2 k;omega
 unfold jf;split
 ·have:=e.1.2 zO;omega
 ·split
  ·have:=e.2.1.2 zO;omega
  ·have h1:¬j3 (ak m) (ak n)<0:=fun k=>by have:=e.1.1 k;omega
   have h2:¬0<j3 (ak m) (ak n):=fun k=>by have:=e.2.1.1 k;omega
   omega
def pv:Nat→Nat→ae
 |0,_=>[]
 |k+1,n=>pv k (n/10)++[UInt8.ofNat (48+n%10)]
theorem KW:∀k n,(pv k n).length=k
 |0,_=>rfl
 |k+1,n=>by simp[pv,KW k]
theorem N2{n:Nat}:(UInt8.ofNat (48+n%10)).toNat=48+n%10:=by
 have:n%10<10:=Nat.mod_lt _ zO;simp;omega
theorem TR:∀k n,(pv k n).all dh=true
 |0,_=>rfl
 |k+1,n=>by
  have:n%10<10:=Nat.mod_lt _ zO;rw[pv,List.all_append,TR k];simp only[List.all_cons,List.all_nil,Bool.and_true,Bool.true_and,dh,N2,Bool.and_eq_true,decide_eq_true_eq];omega
theorem S_:∀k n,natVal (pv k n)=n%10^k
 |0,n=>by simp[pv,natVal,Nat.mod_one]
 |k+1,n=>by
  rw[pv,uA,S_ k,N2,Nat.pow_succ,Nat.mul_comm (10^k) 10,Nat.mod_mul];omega
def rQ(l:List Nat):ae:=(l.reverse.map (pv 9)).flatten
theorem FW(i:List Nat)(x:Nat):rQ (i++[x])=pv 9 x++rQ i:=by simp[rQ]
theorem KX(l:List Nat):(rQ l).length=9*l.length:=by
 induction l using tp with
 |h0=>rfl
 |h1 i x ih=>rw[FW,List.length_append,KW,ih];simp;omega
theorem TS(l:List Nat):(rQ l).all dh=true:=by
 induction l using tp with
 |h0=>rfl
 |h1 i x ih=>rw[FW,List.all_append,TR,ih];rfl
theorem S'{l:List Nat}(h:aU l):natVal (rQ l)=ao l:=by
 induction l using tp with
 |h0=>rfl
 |h1 i x ih=>
  have hi:aU i:=fun y hy=>h y (by simp[hy]);have hx:=h x zS;rw[FW,v7,S_,ih hi,xT,KX];have e1:(10:Nat)^(9*i.length)=gB^i.length:=by rw[Nat.pow_mul];rfl
  have e2:x%10^9=x:=Nat.mod_eq_of_lt hx;rw[e1,e2];omega
theorem akv{s:ae}(h:s.all dh=true):dZ s=(s,false):=by
 cases s with
 |nil=>rfl
 |cons c r=>
  have hc:c≠45:=by
   rintro rfl;simp[dh]at h
  unfold dZ;split
  ·rename_i e;injection e with e1 _;exact absurd e1 hc
  ·rfl
theorem FI:∀s:ae,natVal (ff s)=natVal s
 |[]=>by simp[ff]
 |c::r=>by
  by_cases h:c.toNat=48
  ·have e:=Bg (s:=c::r) zS (by simpa using h);rw[e];have e2:natVal (c::r)=natVal r:=by
    have:=v7 [c] r;rw[List.singleton_append]at this;rw[this];have:natVal [c]=0:=by simp[natVal,h]
    rw[this];omega
   rw[e2];exact FI r
  ·rw[w5 (by simpa using h)]
theorem am8{s:ae}(h:s.all dh=true):val s=natVal s:=by
 have e:=akv h;have e2:digits s=(ff s,false):=by
  unfold digits;rw[e];simp[h]
 unfold val;rw[e2];simp[FI]
theorem am9{s:ae}(h:s.all dh=true):val (45::s)=-(natVal s:Int):=by
 have e:dZ (45::s)=(s,true):=rfl;have e2:digits (45::s)=(ff s,decide (ff s≠[])):=by
  unfold digits;rw[e];simp[h]
 unfold val;rw[e2];by_cases k:ff s=[]
 ·have:=FI s;rw[k]at this;simp[k,natVal]at this⊢;omega
 ·simp[k,FI]
def Du(neg:Bool)(m:List Nat):ae:=canon (if neg=true then[45]++rQ m else rQ m)
theorem ano(neg:Bool){m:List Nat}(h:aU m):Du neg m=ofInt (if neg then -(ao m:Int)else ao m):=by
 unfold Du;rw[Xv];cases neg with
 |true=>simp only[if_true,List.singleton_append];rw[am9 (TS m),S' h]
 |false=>simp only[Bool.false_eq_true,if_false];rw[am8 (TS m),S' h]
theorem aiT{d rest tl av aN:ae}{x2:UInt8}(hr:d=rest++tl)(bg:rest.drop (rest.length-9)=av++x2::aN):d=(rest.take (rest.length-9)++av)++x2::(aN++tl):=by
 have h:=List.take_append_drop (rest.length-9) rest;rw[bg]at h;generalize rest.take (rest.length-9)=t at h⊢;rw[hr,←h];simp
theorem aiU{d rest tl w:ae}(hd:d.all dh=true)(hr:d=rest++tl)(bg:rest.drop (rest.length-9)=w):w.all dh=true:=by
 rw[←bg,List.all_eq_true];intro c hc;rw[hr,List.all_append,Bool.and_eq_true]at hd;exact List.all_eq_true.1 hd.1 c (List.mem_of_mem_drop hc)
open Go.Proofs Go.Proofs.Tryz
set_option maxRecDepth 20000
theorem aiZ(a:Nat):(a:Int).tmod 10=((a%10:Nat):Int):=by
 rw[Int.tmod_eq_emod_of_nonneg zO];omega
theorem aiK{a:Nat}(h:a<9223372036854775808):IntKind.i64.wrap ((a:Int).tdiv 10)=((a/10:Nat):Int):=by
 have e:(a:Int).tdiv 10=((a/10:Nat):Int):=by
  rw[Int.tdiv_eq_ediv_of_nonneg zO];omega
 rw[e];exact aW zO zO
theorem Vj{a k c:Nat}{rest y:List Nat}:gK (a::rest) (y.drop k) c=(if a<c+nth y k then a+gB-(c+nth y k)else a-(c+nth y k))::gK rest (y.drop (k+1)) (if a<c+nth y k then 1 else 0):=by
 rcases Nat.lt_or_ge k y.length with h|h
 ·rw[L0 h,agz]
 ·rw[LZ h,CA h];simp only[Nat.add_zero]
theorem IE(l:List Nat)(i:Nat):Fc Tryz.prog 219 [sI l,.i (i:Int)] (.i (nth l i:Int)):=by
 refine Fc.mk' [4] func219 rfl ntmps219 rfl rfl rfl (fun t w=>results_tmp results219 t _ w) ?_;refine U.ec 0 rfl (fun hb=>?_);simp only[List.length_map,aH]at hb;refine go [] ?_;refine br (fun h1=>?_) (fun h1=>?_)
 ·refine ix zO (adj (k:=i) (by simp at*;omega) rfl) ?_;exact an rfl (Sub.refl _)
 ·exact an rfl (Sub.int (by(rw[CA (by simp at*;omega)];rfl)))
structure amV(m:List Nat)where
 cur:List Nat
 hx:bp cur=bp m
 hl:cur.length≤m.length
theorem VJ(m:List Nat):Fc Tryz.prog 220 [sI m] (sI (bp m)):=by
 refine Fc.mk' [2] func220 rfl ntmps220 rfl rfl rfl (fun t w=>results_tmp results220 t _ w) ?_;refine U.ec 0 rfl (fun hb=>?_);simp only[List.length_map,aH]at hb;refine U.seq (U.cH [.p] ?_);refine .ag rfl rfl<|.nil ?_;refine U.seq ?_;refine U.block ?_;refine U.loop (ι:=amV m) (fun sx=>[(0,sI sx.cur)]) (fun sx=>[]) (fun sx=>sx.cur.length) ⟨m,rfl,by omega⟩ ?_ ?_
 ·exact Le.mk rfl (.s rfl rfl .nil) .nil
 ·rintro⟨cur,hx,hl⟩;show U _ _ _ _ [(0,sI cur)] [];rcases nS cur with rfl|⟨i,x,rfl⟩
  ·skip;refine U.seq (U.seq (U.cH [.p,.p,.p,.p,.p,.p,.p,.p,.p,.p,.p,.p] ?_));refine .mv rfl rfl<|.P rfl (cC underlying67 rfl)<|.P rfl (ju rfl rfl)<|.mv rfl rfl ?_;refine .off rfl (lk rfl rfl rfl zS) ?_;refine .off rfl (lk rfl rfl rfl zS) ?_;refine .off rfl (lk rfl rfl rfl zS) ?_;refine .off rfl (lk rfl rfl rfl zS) ?_;refine .off rfl (lk rfl rfl rfl zS) ?_;refine .off rfl (lk rfl rfl rfl zS) ?_;refine .off rfl (lk rfl rfl rfl zS) ?_;refine .P rfl (C0 rfl zS rfl)<|.nil ?_;refine U.fG rfl rfl ?_;refine U.exit (fc (eY ?_));refine U.seq (U.cH [.p,.p] ?_);refine .mv rfl rfl<|.ag rfl rfl<|.nil ?_;refine U.ret (?_);exact bS rfl (Sub.snap (by rw[←hx];rfl))
  ·skip;refine U.seq (U.seq (U.cH [.p,.p,.p,.p,.p,.p,.p,.p,.p,.p,.p,.p] ?_));refine .mv rfl rfl<|.P rfl (cC underlying67 rfl)<|.P rfl (ju rfl rfl)<|.mv rfl rfl<|.p rfl (cN rfl rfl rfl zS) (fun _=>bG rfl _)<|.p rfl (cN rfl rfl rfl zS) (fun _=>bG rfl _)<|.p rfl (cN rfl rfl rfl zS) (fun _=>cC underlying67 rfl _)<|.p rfl (cN rfl rfl rfl zS) (fun _=>fp rfl rfl (aW zO (by simp at*;omega)) _)<|.p rfl (cN rfl rfl rfl zS) (fun _=>iR underlying67 sizeOf3 rfl rfl zS (Q4 (fun(n:Nat)=>[D.i (n:Int)]) i x rfl) _)<|.p rfl (cN rfl rfl rfl zS) (fun _=>cG isAgg3 rfl _)<|.p rfl (cN rfl rfl rfl zS) (fun _=>l5 rfl rfl _)<|.P rfl (qV rfl zS rfl)<|.nil ?_;refine U.cond rfl (fun h1=>?_) (fun h1=>?_)
   ·have a_:=h1;try simp only[bs]at a_
    refine U.skip ?_;refine U.block ?_;refine U.cH [.p,.p,.p,.p,.p,.p] ?_;refine .mv rfl rfl<|.mv rfl rfl<|.P rfl (cC underlying67 rfl)<|.P rfl (fp rfl rfl (aW zO (by simp at*;omega)))<|.P rfl (kp underlying67 sizeOf3 rfl (h:=i.length) (r:=encI i) (.inl ⟨rfl,rfl⟩) (.inr ⟨_,_,rfl,(x7 rfl zS)⟩) zO zS zS)<|.ag rfl rfl<|.nil ?_;refine U.nil (dv ?_);refine U.nil (dx ?_);exact⟨⟨i,by rw[←hx,show x=0 by omega,tI],by simp at hl;omega⟩,by simp,Le.mk rfl (.s rfl rfl .nil) .nil⟩
   ·have a_:=h1;try simp only[bs]at a_
    refine U.exit (fc (eY ?_));refine U.seq (U.cH [.p,.p] ?_);refine .mv rfl rfl<|.ag rfl rfl<|.nil ?_;refine U.ret (?_);exact bS rfl (Sub.snap (by(rw[←hx,yS i zO])))
structure ahj(x y:List Nat)where
 lx:List Nat
 rx:List Nat
 ly:List Nat
 ry:List Nat
 ex:x=lx++rx
 ey:y=ly++ry
 el:lx.length=ly.length
 er:jz lx.reverse ly.reverse=j3 x y
theorem ahi(x y:List Nat)(hx:x.length≤20000)(hy:y.length≤20000):Fc Tryz.prog 178 [sI x,sI y] (.i (j3 x y)):=by
 refine Fc.mk' [4] func178 rfl ntmps178 rfl rfl rfl (fun t w=>results_tmp results178 t _ w) ?_;refine go [] ?_;refine br (fun h1=>?_) (fun h1=>?_)
 ·refine br (fun h2=>?_) (fun h2=>?_)
  ·exact an rfl (Sub.int (by exact ahc (by simp at*;omega) (by simp at*;omega)))
  ·exact an rfl (Sub.int (by exact ahd (by simp at*;omega) (by simp at*;omega)))
 ·refine sd (aW zO zQ) ?_;refine U.loop (ι:=ahj x y) (fun sx=>[(0,sI x),(1,sI y),(5,.i ((sx.lx.length:Int)-1))]) (fun sx=>[]) (fun sx=>sx.lx.length) ⟨x,[],y,[],by simp,by simp,by simp at*;omega,(ahe (by simp at*;omega)).symm⟩ ?_ ?_
  ·exact Le.mk rfl (.s rfl rfl (.s rfl rfl (.cons rfl (Sub.int zS) rfl .nil))) .nil
  ·rintro⟨lx,rx,ly,ry,ex,ey,el,er⟩;show U _ _ _ _ [(0,sI x),(1,sI y),(5,.i ((lx.length:Int)-1))] [];have H7:=congrArg List.length ex;have H8:=congrArg List.length ey;simp only[List.length_append]at H7 H8;have es:=fun h=>DZ (x:=lx) (y:=ly) h el;refine go [] ?_;refine br (fun h3=>?_) (fun h3=>?_)
   ·have gU:=h3;try simp only[bs]at gU
    refine ix zO (E_ ex zO rfl) ?_;refine ix zO (E_ ey zO zO) ?_;refine ord ?_;refine br (fun h4=>?_) (fun h4=>?_)
    ·have il:=h4;try simp only[bs]at il
     exact an rfl (Sub.int (by(rw[←er,es zO];rw[if_pos zO])))
    ·have il:=h4;try simp only[bs]at il
     refine ix zO (E_ ex zO rfl) ?_;refine ix zO (E_ ey zO zO) ?_;refine ord ?_;refine br (fun h5=>?_) (fun h5=>?_)
     ·have uI:=h5;try simp only[bs]at uI
      exact an rfl (Sub.int (by(rw[←er,es zO];rw[if_neg zO,if_pos zO])))
     ·have uI:=h5;try simp only[bs]at uI
      refine sd (aB zO) ?_;exact nx ⟨lx.dropLast,dA lx::rx,ly.dropLast,dA ly::ry,by rw[ex];conv=>{lhs;rw[tL (l:=lx) zO]};simp,by rw[ey];conv=>{lhs;rw[tL (l:=ly) zO]};simp,by simp;omega,by rw[←er,DZ zO el,if_neg zO,if_neg zO]⟩ zQ (Le.mk rfl (.s rfl rfl (.s rfl rfl (.cons rfl (Sub.int zQ) rfl .nil))) .nil)
   ·have gU:=h3;try simp only[bs]at gU
    refine go [] ?_;exact an rfl (Sub.int (by rw[←er,HC zO]))
structure age(x y:List Nat)where
 pre:List Nat
 rest:List Nat
 out:List Nat
 c:Nat
 hx:x=pre++rest
 pd:out.length=pre.length
 hc:c≤1
 hr:out++gK rest (y.drop pre.length) c=gK x y 0
theorem agd(x y:List Nat)(vJ:x.length≤20000)(zM:y.length≤20000)(nE:aU x)(vK:aU y):Fc Tryz.prog 179 [sI x,sI y] (sI (bp (gK x y 0))):=by
 refine Fc.mk' [4] func179 rfl ntmps179 rfl rfl rfl (fun t w=>results_tmp results179 t _ w) ?_;refine go [12] ?_;refine oP (rR underlying67 sizeOf3) ?_;refine U.loop (ι:=age x y) (fun sx=>[(0,sI x),(1,sI y),(5,.gs 0 sx.out.length),(6,.i (sx.c:Int)),(7,.i (sx.pre.length:Int))]) (fun sx=>[(0,.arr 1 (encI sx.out))]) (fun sx=>sx.rest.length) ⟨[],x,[],0,by simp,rfl,by omega,by simp⟩ ?_ ?_
 ·exact(Le.ij 0 1).trans<|Le.mk rfl (.s rfl rfl (.s rfl rfl (.cons rfl (Sub.sw _ _) rfl (.s rfl rfl (.s rfl rfl .nil))))) (.arr rfl (by rfl) .nil)
 ·rintro⟨pre,rest,out,c,hx,pd,hc,hr⟩;show U _ _ _ _ [(0,sI x),(1,sI y),(5,.gs 0 out.length),(6,.i (c:Int)),(7,.i (pre.length:Int))] [(0,.arr 1 (encI out))];rcases rest with _|⟨a,rest⟩
  ·have hl:=congrArg List.length hx;simp only[List.length_append,List.length_nil]at hl;refine go [12] ?_;refine aQ zQ ?_;refine go [12] ?_;refine U.bC (Le.freeze 5 0 rfl rfl zS) ?_;refine go [] ?_;refine oP (aj call220 rfl (VJ _)) ?_;exact an rfl (Sub.snap (by simp[gK]at hr;simp[hr]))
  ·have hl:=congrArg List.length hx;simp only[List.length_append,List.length_cons]at hl;have ha:=nE a (by rw[hx];simp);have hb:=fP vK pre.length;refine go [12] ?_;refine bM zQ ?_;refine ix zO (bb (fun(n:Nat)=>[D.i (n:Int)]) hx rfl) ?_;refine oP (aj call219 rfl (IE _ _)) ?_;refine sd (aW (by unfold gB at*;omega) (by unfold gB at*;omega)) ?_;refine sd (aW (by unfold gB at*;omega) (by unfold gB at*;omega)) ?_;refine ord ?_;refine br (fun h1=>?_) (fun h1=>?_)
   ·have a_:=h1;try simp only[bs]at a_
    refine sd (aW (by unfold gB at*;omega) zO) ?_;refine oP (F4 underlying67 sizeOf3 zeroValue3 rfl rfl rfl rfl rfl) ?_;refine oW (dJ 1 underlying67 underlying67 sizeOf3 typeInfo3 zeroValue3 rfl (bt:=8) rfl rfl rfl rfl zS rfl rfl zQ) ?_;refine sd (aB zO) ?_;exact nx ⟨pre++[a],rest,out++[a+gB-(c+nth y pre.length)],1,by simp[hx],by simp[pd],by omega,by rw[←hr,Vj,if_pos zO,if_pos zO];simp⟩ zS ((Le.mk (ai:=[(1,_)]) rfl (show du _ _ [(0,_),(1,_),(5,_),(6,_),(7,_)]from(.s rfl rfl (.s rfl rfl (.s rfl rfl (.s rfl rfl (.s rfl rfl .nil)))))) (.cons (i:=1) rfl rfl .nil)).trans<|(Le.j4 5 1 0 rfl rfl zS rfl).trans<|Le.mk rfl (.s rfl rfl (.s rfl rfl (.cons rfl (Sub.gs zS) rfl (.s rfl rfl (.cons rfl (Sub.int zS) rfl .nil))))) (.arr rfl (by simp[encI];unfold gB at*;omega) .nil))
   ·have a_:=h1;try simp only[bs]at a_
    refine oP (F4 underlying67 sizeOf3 zeroValue3 rfl rfl rfl rfl rfl) ?_;refine oW (dJ 1 underlying67 underlying67 sizeOf3 typeInfo3 zeroValue3 rfl (bt:=8) rfl rfl rfl rfl zS rfl rfl zQ) ?_;refine sd (aB zO) ?_;exact nx ⟨pre++[a],rest,out++[a-(c+nth y pre.length)],0,by simp[hx],by simp[pd],by omega,by rw[←hr,Vj,if_neg zO,if_neg zO];simp⟩ zS ((Le.mk (ai:=[(1,_)]) rfl (show du _ _ [(0,_),(1,_),(5,_),(6,_),(7,_)]from(.s rfl rfl (.s rfl rfl (.s rfl rfl (.s rfl rfl (.s rfl rfl .nil)))))) (.cons (i:=1) rfl rfl .nil)).trans<|(Le.j4 5 1 0 rfl rfl zS rfl).trans<|Le.mk rfl (.s rfl rfl (.s rfl rfl (.cons rfl (Sub.gs zS) rfl (.s rfl rfl (.cons rfl (Sub.int zS) rfl .nil))))) (.arr rfl (by simp[encI];unfold gB at*;omega) .nil))
structure aiR(s:ae)where
 rest:ae
 tl:ae
 e:Int
 done:List Nat
 hr:(digits s).1=rest++tl
 he:(0<e→e=rest.length)∧(e≤0→rest=[])
 hx:done++gu rest=gu (digits s).1
structure aiS(s:ae)(rest tl:ae)(e:Int)(done:List Nat)where
 av:ae
 aN:ae
 bg:rest.drop (rest.length-9)=av++aN
theorem aiQ(s:ae)(hs:s.length≤100000):Fc Tryz.prog 128 [.str s] (.agg [.b (digits s).2,sI (gu (digits s).1)]):=by
 refine Fc.j2 func128 rfl ntmps128 rfl rfl rfl ?_;have qz:=m_ s;have ET:=pM s;have dH:=ru (digits s).1;refine go [99999] ?_;refine oP (aj call176 rfl (yV _)) ?_;refine U.loop (ι:=aiR s) (fun sx=>[(2,.box 0 0),(3,.str (digits s).1),(5,.box 1 0),(6,.i sx.e)]) (fun sx=>[(0,.cells [.b false,.raw (.slice none 0 0)]),(1,.cells [.b (digits s).2,.gs 2 sx.done.length]),(2,.arr 1 (encI sx.done))]) (fun sx=>sx.rest.length) ⟨(digits s).1,[],(digits s).1.length,[],by simp,⟨fun _=>rfl,fun h=>List.length_eq_zero_iff.1 zO⟩,rfl⟩ ?_ ?_
 ·exact(Le.ij 2 1).trans<|(Le.eP 1 1 rfl rfl (Sub.qv _)).trans<|Le.mk rfl (.s rfl rfl (.s rfl rfl (.s rfl rfl (.s rfl rfl .nil)))) (.cons rfl rfl (.cons rfl rfl (.arr rfl (by rfl) .nil)))
 ·rintro⟨rest,tl,e,done,hr,he,hx⟩;show U _ _ _ _ [(2,.box 0 0),(3,.str (digits s).1),(5,.box 1 0),(6,.i e)] [(0,.cells [.b false,.raw (.slice none 0 0)]),(1,.cells [.b (digits s).2,.gs 2 done.length]),(2,.arr 1 (encI done))];have gO:=congrArg List.length hr;simp only[List.length_append]at gO;have xJ:=congrArg List.length hx;simp only[List.length_append]at xJ;refine go [99999] ?_;refine br (fun h1=>?_) (fun h1=>?_)
  ·have a_:=h1;try simp only[bs]at a_
   refine sd (aB zO) ?_;refine U.loop (ι:=aiS s rest tl e done) (fun sx=>[(2,.box 0 0),(3,.str (digits s).1),(5,.box 1 0),(6,.i e),(7,.i (natVal sx.av:Int)),(8,.i ((rest.length-9+sx.av.length:Nat):Int))]) (fun sx=>[(0,.cells [.b false,.raw (.slice none 0 0)]),(1,.cells [.b (digits s).2,.gs 2 done.length]),(2,.arr 1 (encI done))]) (fun sx=>sx.aN.length) ⟨[],_,rfl⟩ ?_ ?_
   ·exact Le.mk rfl (.s rfl rfl (.s rfl rfl (.s rfl rfl (.s rfl rfl (.s rfl rfl (.cons rfl (Sub.int zQ) rfl .nil)))))) (.cons rfl rfl (.cons rfl rfl (.arr rfl zS .nil)))
   ·rintro⟨av,aN,bg⟩;show U _ _ _ _ [(2,.box 0 0),(3,.str (digits s).1),(5,.box 1 0),(6,.i e),(7,.i (natVal av:Int)),(8,.i ((rest.length-9+av.length:Nat):Int))] [(0,.cells [.b false,.raw (.slice none 0 0)]),(1,.cells [.b (digits s).2,.gs 2 done.length]),(2,.arr 1 (encI done))];have IN:=congrArg List.length bg;simp only[List.length_append,List.length_drop]at IN;have IM:=aiU ET hr bg;rw[List.all_append,Bool.and_eq_true]at IM;have hv:=s8 av IM.1;have hp9:10^av.length≤10^9:=Nat.pow_le_pow_right zO zO;rcases aN with _|⟨x2,aN⟩
    ·simp only[List.length_nil]at IN;obtain rfl:av=rest.drop (rest.length-9):=by simpa using bg.symm
     refine go [99999] ?_;refine aQ zQ ?_;refine go [99999] ?_;refine oP (F4 underlying67 sizeOf3 zeroValue3 rfl rfl rfl rfl rfl) ?_;refine oW (dJ 3 underlying67 underlying67 sizeOf3 typeInfo3 zeroValue3 rfl (bt:=8) rfl rfl rfl rfl zS rfl rfl zQ) ?_;refine go [99999] ?_;refine sd (aB zO) ?_;exact nx ⟨rest.take (rest.length-9),rest.drop (rest.length-9)++tl,e-9,done++[natVal (rest.drop (rest.length-9))],by rw[hr,←List.append_assoc,List.take_append_drop],⟨fun h=>by simp;omega,fun h=>List.length_eq_zero_iff.1 zQ⟩,by rw[←hx,zj (s:=rest) zO];simp⟩ zQ ((Le.mk (ai:=[(0,_),(1,_),(3,_)]) rfl (show du _ _ [(2,_),(3,_),(5,_),(6,_)]from(.s rfl rfl (.s rfl rfl (.s rfl rfl (.s rfl rfl .nil))))) (.cons (i:=0) rfl rfl (.cons (i:=1) rfl rfl (.cons (i:=3) rfl rfl .nil)))).trans<|(Le.Ut 1 1 3 2 rfl rfl rfl zS rfl).trans<|Le.mk rfl (.s rfl rfl (.s rfl rfl (.s rfl rfl (.s rfl rfl .nil)))) (.cons rfl rfl (.eq rfl zS rfl (.arr rfl (by simp[encI]) .nil))))
    ·simp only[List.length_cons]at IN;have hq:=IM.2;simp only[List.all_cons,Bool.and_eq_true,dh,decide_eq_true_eq]at hq;refine go [99999] ?_;refine bM zQ ?_;refine sd (aB zO) ?_;refine Rp zO (sR (pre:=rest.take (rest.length-9)++av) (rest:=aN++tl) (x:=x2) (aiT hr bg) zS) ?_;refine sd (V4 zO zO) ?_;refine sd (aB zO) ?_;refine sd (aB zO) ?_;refine sd (aB zO) ?_;exact nx ⟨av++[x2],aN,by simp[bg]⟩ zS (Le.mk rfl (.s rfl rfl (.s rfl rfl (.s rfl rfl (.s rfl rfl (.cons rfl (Sub.int (by rw[uA];omega)) rfl (.cons rfl (Sub.int zQ) rfl .nil)))))) (.cons rfl rfl (.cons rfl rfl (.arr rfl zS .nil))))
  ·have a_:=h1;try simp only[bs]at a_
   refine go [99999] ?_;refine U.bC (Le.Is 0 1 2 rfl rfl rfl zS) ?_;refine U.ret (?_);exact Rd.cA results128 isAgg210 sizeOf210 rfl rfl rfl (Sub.agg (.r (.cons (Sub.snap (by rw[←hx,he.2 zO,tX,List.append_nil])) .nil)))
structure anl(neg:Bool)(m:List Nat)where
 pre:List Nat
 rest:List Nat
 hx:m=pre++rest
structure anm(neg:Bool)(m:List Nat)(pre:List Nat)(x:Nat)where
 n:Nat
 k:Nat
 acc:ae
 hk:k≤9
 hn:n<gB
 hq:pv (9-k) n++acc=pv 9 x++rQ pre
theorem ank(neg:Bool)(m:List Nat)(hs:m.length≤20000)(hm:aU m):Fc Tryz.prog 126 [.agg [.b neg,sI m]] (.str (Du neg m)):=by
 refine Fc.mk' [2] func126 rfl ntmps126 rfl rfl rfl (fun t w=>results_tmp results126 t _ w) ?_;have E4:=KX m;refine go [] ?_;refine U.loop (ι:=anl neg m) (fun sx=>[(1,.box 0 0),(3,.str (rQ sx.pre)),(4,.i sx.pre.length)]) (fun sx=>[(0,.cells [.b neg,sI m])]) (fun sx=>sx.rest.length) ⟨[],m,rfl⟩ ?_ ?_
 ·exact Le.mk rfl (.s rfl rfl (.s rfl rfl (.s rfl rfl .nil))) (.cons rfl rfl .nil)
 ·rintro⟨pre,rest,hx⟩;show U _ _ _ _ [(1,.box 0 0),(3,.str (rQ pre)),(4,.i pre.length)] [(0,.cells [.b neg,sI m])];have hl:=congrArg List.length hx;simp only[List.length_append]at hl;rcases rest with _|⟨x,rest⟩
  ·obtain rfl:m=pre:=by simpa using hx
   refine go [] ?_;refine aQ zS ?_;refine go [] ?_;refine br (fun h1=>?_) (fun h1=>?_)
   ·refine sd (by simp[aH];omega) ?_;refine oP (aj call120 rfl (Hx _)) ?_;exact an rfl (Sub.str (by unfold Du;rw[if_pos zA]))
   ·refine oP (aj call120 rfl (Hx _)) ?_;exact an rfl (Sub.str (by unfold Du;rw[if_neg (by simp at*;assumption)]))
  ·simp only[List.length_cons]at hl;have kf:=hm x (by rw[hx];simp);refine go [] ?_;refine bM zQ ?_;refine ix zO (bb (fun(n:Nat)=>[D.i (n:Int)]) hx rfl) ?_;refine U.loop (ι:=anm neg m pre x) (fun sx=>[(1,.box 0 0),(3,.str sx.acc),(4,.i (pre.length:Int)),(5,.i (sx.n:Int)),(6,.i (sx.k:Int))]) (fun sx=>[(0,.cells [.b neg,sI m])]) (fun sx=>9-sx.k) ⟨x,0,_,by omega,kf,rfl⟩ ?_ ?_
   ·exact Le.mk rfl (.s rfl rfl (.s rfl rfl (.s rfl rfl (.s rfl rfl (.s rfl rfl .nil))))) (.cons rfl rfl .nil)
   ·rintro⟨n,k,acc,hk,hn,hq⟩;show U _ _ _ _ [(1,.box 0 0),(3,.str acc),(4,.i (pre.length:Int)),(5,.i (n:Int)),(6,.i (k:Int))] [(0,.cells [.b neg,sI m])];refine go [] ?_;refine br (fun h2=>?_) (fun h2=>?_)
    ·have dO:=h2;try simp only[bs]at dO
     refine oP (qW rfl rfl zD (aiZ _)) ?_;refine sd (aB zO) ?_;refine sd (Mi zO zO) ?_;refine oP (Lx underlying21 underlying9 rfl (c:=UInt8.ofNat (48+n%10)) zO zO (by congr 1<;>omega)) ?_;refine sd (by have:=congrArg List.length hq;simp[KW,KX]at this;simp[aH];omega) ?_;refine oP (oJ rfl rfl zD (aiK (by unfold gB at*;omega))) ?_;refine sd (aB zO) ?_;exact nx ⟨n/10,k+1,UInt8.ofNat (48+n%10)::acc,by simp at*;omega,by omega,by rw[←hq,show 9-k=(9-(k+1))+1 by simp at*;omega,pv];simp⟩ (by simp at*;omega) (Le.mk rfl (.s rfl rfl (.s rfl rfl (.s rfl rfl (.s rfl rfl (.s rfl rfl .nil))))) (.cons rfl rfl .nil))
    ·have dO:=h2;try simp only[bs]at dO
     refine U.nil (dv ?_);refine go [] ?_;refine sd (aB zO) ?_;exact nx ⟨pre++[x],rest,by simp[hx]⟩ zS (Le.mk rfl (.s rfl rfl (.cons rfl (Sub.str (by rw[FW,←hq];simp[pv,show k=9 by omega])) rfl (.cons rfl (Sub.int zS) rfl .nil))) (.cons rfl rfl .nil))
theorem ann(neg:Bool)(n:Nat)(h:(ak n).length≤20000):Fc Tryz.prog 126 [.agg [.b neg,sI (ak n)]] (.str (ofInt (if neg then -(n:Int)else n))):=by
 have:=ank neg (ak n) h (ek n);rwa[ano _ (ek n),gI]at this
theorem Um(s:ae)(hs:s.length≤100000):Fc Tryz.prog 128 [.str s] (.agg [.b (decide (val s<0)),sI (ak (val s).natAbs)]):=by
 have:=aiQ s hs;rw[KB,EJ]at this;exact this
theorem ahh(m n:Nat)(hm:(ak m).length≤20000)(hn:(ak n).length≤20000):Fc Tryz.prog 178 [sI (ak m),sI (ak n)] (.i (j3 (ak m) (ak n))):=ahi _ _ hm hn
theorem SE(a b:Nat)(ha:(ak a).length≤20000)(hb:(ak b).length≤20000)(h:b≤a):Fc Tryz.prog 179 [sI (ak a),sI (ak b)] (sI (ak (a-b))):=by
 have:=agd (ak a) (ak b) ha hb (ek a) (ek b);rw[tJ (yx _ _ _ (ek a) (ek b) zO),uV _ _ _ (ek a) (ek b) zO (by rw[gI,gI];omega),gI,gI]at this;exact this
theorem TX(l:dM):Fc Tryz.prog 117 [.agg (iZ l)] (.agg [.str l.mT,.str l.oV]):=by
 refine Fc.j2 func117 rfl ntmps117 rfl rfl rfl ?_;refine U.seq<|rg<|.W rfl (oG 0 rfl rfl)<|.W rfl (ln 1 zeroValue201 rfl)<|.nil<|U.seq<|rg<|.P rfl (bJ (n:=0) 9 0 underlying48 sizeOf9 rfl rfl)<|.R rfl (bP isAgg9 rfl rfl rfl)<|.P rfl (bJ (n:=0) 9 1 underlying48 sizeOf9 rfl rfl)<|.R rfl (bP isAgg9 rfl rfl rfl)<|.P rfl (tj (pl:=#[(0,1),(1,1)]) underlying201 zeroValue201 (fun w=>by kernel_rfl) rfl rfl)<|.W rfl (mJ sizeOf201 rfl rfl rfl rfl rfl rfl)<|.nil<|U.ret (?_);exact Rd.cA results117 isAgg201 sizeOf201 rfl rfl rfl (Sub.agg (.r (.r .nil)))
def lZ:List Int→Int
 |[]=>0
 |x::r=>if x≠0 then x else lZ r
section
variable[bT]
structure ahb(l:List Int)where
 pre:List Int
 rest:List Int
 hx:l=pre++rest
 hp:lZ rest=lZ l
theorem CJ(l:List Int):Fc Tryz.prog 37 [.snap 1 true (l.map fun n=>[.i n])] (.i (lZ l)):=by
 refine bE func37 ntmps37 results37 ?_;refine U.ec 0 rfl (fun hb=>?_);simp only[List.length_map,aH]at hb;refine go []<|U.loop (ι:=ahb l) (fun sx=>[(3,.i 0),(6,.snap 1 true (l.map fun n=>[.i n])),(7,.i l.length),(8,.i sx.pre.length)]) (fun sx=>[]) (fun sx=>sx.rest.length) ⟨[],l,rfl,rfl⟩ ?_ ?_
 ·exact Le.mk rfl (.n 2 rfl rfl (.cons rfl (Sub.int zS) rfl (.s rfl rfl .nil))) .nil
 ·rintro⟨pre,rest,hx,hp⟩;dsimp only;rcases lc hx with⟨rfl,hl⟩|⟨x,rest,rfl,hl⟩
  ·skip;exact go []<|aQ (by simp at hl⊢;omega)<|go []<|an rfl (Sub.int (by rw[←hp];rfl))
  ·refine go []<|bM zQ<|ix zO (bb (fun n:Int=>[D.i n]) hx rfl)<|br (fun h1=>?_) (fun h1=>?_)
   ·have a_:=h1;try simp only[bs]at a_
    exact an rfl (Sub.int (by rw[←hp];simp[lZ];omega))
   ·exact sd (aB zO)<|nx ⟨pre++[x],rest,by simp[hx],by rw[←hp];simp at*;simp[lZ, *]⟩ zS (Le.mk rfl (.n 3 rfl rfl (.cons rfl (Sub.int zS) rfl .nil)) .nil)
theorem aew(a b c d:ae):Fc Tryz.prog 118 [.agg [.str a,.str b],.agg [.str c,.str d]] (.i (lZ [dm a c,dm b d])):=by
 refine bE func118 ntmps118 results118 ?_;refine U.seq<|rg<|.W rfl (oG 0 rfl rfl)<|.W rfl (oG 1 rfl rfl)<|.ag rfl rfl<|.nil<|U.seq (U.qY [.p,.r,.p,.r,.p,.p,.r,.p,.r,.p,.p,.p,.p] mS zK ?_);refine .P rfl (bJ (n:=0) 9 0 underlying201 sizeOf9 rfl rfl)<|.R rfl (bP isAgg9 rfl rfl rfl)<|.P rfl (bJ (n:=0) 9 0 underlying201 sizeOf9 rfl rfl)<|.R rfl (bP isAgg9 rfl rfl rfl)<|.P rfl (aj call29 rfl (sh _ _))<|.P rfl (bJ (n:=0) 9 1 underlying201 sizeOf9 rfl rfl)<|.R rfl (bP isAgg9 rfl rfl rfl)<|.P rfl (bJ (n:=0) 9 1 underlying201 sizeOf9 rfl rfl)<|.R rfl (bP isAgg9 rfl rfl rfl)<|.P rfl (aj call29 rfl (sh _ _))<|.P rfl (cm (n:=2) (rows:=[dm a c,dm b d].map fun n=>[.i n]) underlying67 sizeOf3 rfl rfl rfl zeroValue3 rfl rfl rfl rfl rfl rfl rfl)<|.P rfl (aj call37 rfl (CJ [dm a c,dm b d]))<|.ag rfl rfl<|.nil<|U.ret (?_);exact bS rfl (Sub.refl _)
end
theorem aha(a b:dM):lZ [dm a.mT b.mT,dm a.oV b.oV]=me a b:=by
 unfold me;simp only[lZ];split<;>(try split)<;>simp_all
theorem Rl(d:Int):Fc Tryz.prog 79 [.i d] (.b false):=by
 refine bE func79 ntmps79 results79 ?_;exact go []<|an rfl (Sub.bool zS)
def tF(a b:Int):Int:=if a<b then -1 else if b<a then 1 else 0
def Bc(a b:dM):Int:=lZ [lZ [dm a.mT b.mT,dm a.oV b.oV],jf (val a.fq-val b.fq)]
def rl:List dM→List dM→Int
 |[],[]=>0
 |[],_::_=>-1
 |_::_,[]=>1
 |a::x,b::y=>if Bc a b≠0 then Bc a b else rl x y
def HA(a b:Entry):Int:=lZ [tF a.day b.day,dm a.fe b.fe,rl a.lines b.lines]
theorem Hz(a b:Int):Fc Tryz.prog 38 [.i a,.i b] (.i (tF a b)):=by
 refine bE func38 ntmps38 results38 ?_;refine go []<|oP (aj call79 rfl (Rl _))<|oP (aj call79 rfl (Rl _))<|aQ rfl<|aQ rfl<|br (fun h1=>?_) (fun h1=>?_)
 ·exact an rfl (Sub.int (by grind[tF]))
 ·refine br (fun h2=>?_) (fun h2=>?_)
  ·exact an rfl (Sub.int (by grind[tF]))
  ·exact an rfl (Sub.int (by grind[tF]))
theorem Ym(a b:dM)(ha:a.fq.length≤4000)(hb:b.fq.length≤4000):Fc Tryz.prog 85 [.agg (iZ a),.agg (iZ b)] (.i (Bc a b)):=by
 refine bE func85 ntmps85 results85 ?_;refine U.seq<|rg<|.W rfl (oG 0 rfl rfl)<|.W rfl (oG 1 rfl rfl)<|.ag rfl rfl<|.nil<|U.seq (U.qY [.r,.p,.r,.p,.p,.p,.r,.p,.r,.p,.p,.p,.p] mS zK ?_);refine .R rfl (AA isAgg48 sizeOf48 rfl rfl rfl)<|.P rfl (aj call117 rfl (TX _))<|.R rfl (AA isAgg48 sizeOf48 rfl rfl rfl)<|.P rfl (aj call117 rfl (TX _))<|.P rfl (aj call118 rfl (aew _ _ _ _))<|.P rfl (bJ (n:=0) 37 2 underlying48 sizeOf37 rfl rfl)<|.R rfl (bP isAgg37 rfl rfl rfl)<|.P rfl (bJ (n:=0) 37 2 underlying48 sizeOf37 rfl rfl)<|.R rfl (bP isAgg37 rfl rfl rfl)<|.P rfl (aj call119 rfl (yQ _ _ ha hb))<|.P rfl (cm (n:=2) (rows:=[lZ [dm a.mT b.mT,dm a.oV b.oV],jf (val a.fq-val b.fq)].map fun n=>[.i n]) underlying67 sizeOf3 rfl rfl rfl zeroValue3 rfl rfl rfl rfl rfl rfl rfl)<|.P rfl (aj call37 rfl (CJ [lZ [dm a.mT b.mT,dm a.oV b.oV],jf (val a.fq-val b.fq)]))<|.ag rfl rfl<|.nil<|U.ret (?_);exact bS rfl (Sub.refl _)
end Go.T
namespace Go.T
section
variable{α:Type} (le:α→α→Bool)
@[reducible] def eqv(x y:α):Bool:=le x y&&le y x
@[reducible] def iv(l:List α):Prop:=l.Pairwise fun a b=>le a b=true
@[reducible] def mR(a b:List α):Prop:=∀k,a.filter (eqv le k)=b.filter (eqv le k)
structure ve:Prop where
 L9:∀a b,le a b=true∨le b a=true
 jO:∀a b c,le a b=true→le b c=true→le a c=true
variable{le} (hp:ve le)
include hp
theorem ve.refl(a:α):le a a=true:=(hp.L9 a a).elim id id
theorem ve.not{a b:α}(h:le a b=false):le b a=true:=(hp.L9 a b).resolve_left (by rw[h];simp)
theorem ve.L_(a b:α):(le a b||le b a)=true:=by rcases hp.L9 a b with h|h<;>simp[h]
theorem OB(a:α):eqv le a a=true:=by simp[eqv,hp.refl a]
theorem Ge{a b:List α}(h:mR le a b){x:α}(hx:x∈a):x∈b:=by
 have:x∈a.filter (eqv le x):=List.mem_filter.2 ⟨hx,OB hp x⟩;rw[h x]at this;exact(List.mem_filter.1 this).1
theorem LU:∀{a b:List α},iv le a→iv le b→mR le a b→a=b
 |[],[],_,_,_=>rfl
 |[],y::b,_,_,h=>by have:=Ge hp (fun k=>(h k).symm) (x:=y) zS;cases this
 |x::a,[],_,_,h=>by have:=Ge hp h (x:=x) zS;cases this
 |x::a,y::b,ha,hb,h=>by
  have sD:=List.pairwise_cons.1 ha;have rz:=List.pairwise_cons.1 hb;have hxy:le x y=true:=by
   rcases List.mem_cons.1 (Ge hp (fun k=>(h k).symm) (x:=y) zS)with rfl|k
   ·exact hp.refl _
   ·exact sD.1 y k
  have hyx:le y x=true:=by
   rcases List.mem_cons.1 (Ge hp h (x:=x) zS)with rfl|k
   ·exact hp.refl _
   ·exact rz.1 x k
  have e:x=y:=by
   have h1:=h x;rw[List.filter_cons_of_pos (OB hp x),List.filter_cons_of_pos (by simp[eqv,hxy,hyx])]at h1;exact(List.cons.inj h1).1
  subst e;rw[LU sD.2 rz.2 fun k=>?_];have h1:=h k;by_cases c:eqv le k x=true
  ·rw[List.filter_cons_of_pos c,List.filter_cons_of_pos c]at h1;exact(List.cons.inj h1).2
  ·rwa[List.filter_cons_of_neg c,List.filter_cons_of_neg c]at h1
omit hp in
theorem yq{a b c d:List α}(h:mR le a b)(h2:mR le c d):mR le (a++c) (b++d):=fun k=>by rw[List.filter_append,List.filter_append,h k,h2 k]
omit hp in
theorem wx(a:List α):mR le a a:=fun _=>rfl
omit hp in
theorem C6{a b c:List α}(h:mR le a b)(h2:mR le b c):mR le a c:=fun k=>(h k).trans (h2 k)
theorem UL{u v:List α}(h:∀x∈u,∀y∈v,le x y=false):mR le (u++v) (v++u):=fun k=>by
 rw[List.filter_append,List.filter_append];by_cases c:u.filter (eqv le k)=[]
 ·rw[c];simp
 ·obtain⟨x,hx⟩:=List.exists_mem_of_ne_nil _ c;have hx:=List.mem_filter.1 hx;have e:v.filter (eqv le k)=[]:=by
   rw[List.filter_eq_nil_iff];intro y hy hk;have h1:=h x hx.1 y hy;have bg:=Bool.and_eq_true_iff.1 hx.2;have JQ:=Bool.and_eq_true_iff.1 hk;rw[hp.jO x k y bg.2 JQ.1]at h1;cases h1
  rw[e];simp
theorem Vb{a b:List α}(ha:iv le a)(hb:iv le b)(h:∀x∈a,∀y∈b,le x y=true):iv le (a++b):=List.pairwise_append.2 ⟨ha,hb,h⟩
theorem Ac:∀(a b:List α),iv le a→mR le (List.merge a b le) (a++b)
 |[],b,_=>by rw[List.nil_merge];exact wx _
 |x::a,[],_=>by rw[List.merge_right,List.append_nil];exact wx _
 |x::a,y::b,ha=>by
  rw[List.cons_merge_cons];split
  ·exact yq (wx [x]) (Ac a (y::b) (List.pairwise_cons.1 ha).2)
  ·rename_i c;have h1:=Ac (x::a) b ha;have h2:mR le ([y]++(x::a)) ((x::a)++[y]):=fun k=>((UL hp (u:=x::a) (v:=[y]) (fun z hz w hw=>by
    obtain rfl:w=y:=by simpa using hw
    cases c2:le z w with
    |false=>rfl
    |true=>
     exfalso;rcases List.mem_cons.1 hz with rfl|hz
     ·exact c c2
     ·exact c (hp.jO _ _ _ ((List.pairwise_cons.1 ha).1 z hz) c2))) k).symm
   have h3:=yq (wx (le:=le) [y]) h1;have h4:=yq h2 (wx (le:=le) b);have e:([y]++(x::a++b))=([y]++(x::a))++b:=by simp
   have e2:(x::a++[y])++b=x::a++y::b:=by simp
   rw[e]at h3;rw[e2]at h4;exact C6 h3 h4
theorem Ft{a b:List α}(ha:iv le a)(hb:iv le b):iv le (List.merge a b le):=List.pairwise_merge (le:=le) hp.jO hp.L_ _ _ ha hb
theorem Rn{a b l:List α}(ha:iv le a)(hb:iv le b)(hl:iv le l)(h:mR le l (a++b)):l=List.merge a b le:=LU hp hl (Ft hp ha hb) (C6 h fun k=>(Ac hp a b ha k).symm)
theorem Ks{a1 a2 b1 b2:List α}(ha:iv le (a1++a2))(hb:iv le (b1++b2))(h1:∀x∈a1,∀y∈b2,le x y=true)(h2:∀x∈a2,∀y∈b1,le x y=false):
  List.merge a1 b1 le++List.merge a2 b2 le=List.merge (a1++a2) (b1++b2) le:=by
 obtain⟨By,P8,ha3⟩:=List.pairwise_append.1 ha;obtain⟨j9,iG,IZ⟩:=List.pairwise_append.1 hb;refine Rn hp ha hb (Vb hp (Ft hp By j9) (Ft hp P8 iG) fun x hx y hy=>?_) ?_
 ·rcases List.mem_append.1 ((List.merge_perm_append le).mem_iff.1 hx)with hx|hx<;>rcases List.mem_append.1 ((List.merge_perm_append le).mem_iff.1 hy)with hy|hy
  ·exact ha3 x hx y hy
  ·exact h1 x hx y hy
  ·exact hp.not (h2 y hy x hx)
  ·exact IZ x hx y hy
 ·have e1:=yq (Ac hp a1 b1 By) (Ac hp a2 b2 P8);refine C6 e1 ?_;have e2:mR le (b1++a2) (a2++b1):=fun k=>(UL hp h2 k).symm;have e3:=yq (yq (wx (le:=le) a1) e2) (wx (le:=le) b2);have q1:(a1++(b1++a2))++b2=a1++b1++(a2++b2):=by simp
  have q2:(a1++(a2++b1))++b2=a1++a2++(b1++b2):=by simp
  rwa[q1,q2]at e3
theorem SB(b:List α):List.merge [] b le=b:=List.nil_merge b
theorem SC(a:List α):List.merge a [] le=a:=List.merge_right a
theorem afS{x:α}{b1 b2:List α}(hb:iv le (b1++b2))(h1:∀y∈b1,le x y=false)(h2:∀y∈b2,le x y=true):List.merge [x] (b1++b2) le=b1++x::b2:=by
 have h:=Ks hp (a1:=[]) (a2:=[x]) (b1:=b1) (b2:=b2) zS hb zS (fun z hz y hy=>by
  obtain rfl:z=x:=by simpa using hz
  exact h1 y hy)
 have e:List.merge [x] b2 le=x::b2:=by
  cases b2 with
  |nil=>rw[List.merge_right]
  |cons y r=>rw[List.cons_merge_cons,if_pos (h2 y zS),List.nil_merge]
 rw[List.nil_merge,e]at h;exact h.symm
theorem SD{y:α}{a1 a2:List α}(ha:iv le (a1++a2))(h1:∀x∈a1,le x y=true)(h2:∀x∈a2,le x y=false):List.merge (a1++a2) [y] le=a1++y::a2:=by
 have h:=Ks hp (a1:=a1) (a2:=a2) (b1:=[y]) (b2:=[]) ha zS zS (fun x hx z hz=>by
  obtain rfl:z=y:=by simpa using hz
  exact h2 x hx)
 have e:List.merge a1 [y] le=a1++[y]:=by
  have By:=(List.pairwise_append.1 ha).1;refine(Rn hp By zS (Vb hp By zS fun x hx z hz=>?_) (wx _)).symm;obtain rfl:z=y:=by simpa using hz
  exact h1 x hx
 rw[List.merge_right,e]at h;rw[List.append_nil]at h;rw[←h];simp
theorem s4(l:List α):iv le (l.mergeSort le):=List.pairwise_mergeSort hp.jO hp.L_ l
theorem Kp(l:List α):mR le (l.mergeSort le) l:=fun k=>by
 have hs:(l.filter (eqv le k)).Sublist (l.mergeSort le):=List.sublist_mergeSort hp.jO hp.L_ (List.pairwise_iff_getElem.2 fun i j hi hj _=>by
  have h1:=List.mem_filter.1 (List.getElem_mem hi);have h2:=List.mem_filter.1 (List.getElem_mem hj);exact hp.jO _ k _ (Bool.and_eq_true_iff.1 h1.2).2 (Bool.and_eq_true_iff.1 h2.2).1) List.filter_sublist
 have h2:=hs.filter (eqv le k);rw[List.filter_filter]at h2;simp only[Bool.and_self]at h2;have hl:((l.mergeSort le).filter (eqv le k)).length=(l.filter (eqv le k)).length:=((List.mergeSort_perm l le).filter _).length_eq;exact(h2.eq_of_length hl.symm).symm
theorem ad8{l l2:List α}(h:iv le l2)(hc:mR le l2 l):l2=l.mergeSort le:=LU hp h (s4 hp l) (C6 hc fun k=>(Kp hp l k).symm)
theorem Kr(a b:List α):List.merge (a.mergeSort le) (b.mergeSort le) le=(a++b).mergeSort le:=
 ad8 hp (Ft hp (s4 hp a) (s4 hp b)) (C6 (Ac hp _ _ (s4 hp a)) (yq (Kp hp a) (Kp hp b)))
end
section
variable{α:Type} [Inhabited α] {le:α→α→Bool}
@[reducible] def at_(d:List α)(k:Nat):α:=d.getD k default
def lK(d:List α)(i j:Nat):List α:=(d.drop i).take (j-i)
@[reducible] def AY(le:α→α→Bool)(d:List α)(i j:Nat):Prop:=∀k l,i≤k→k<l→l<j→le (at_ d k) (at_ d l)=true
theorem Hf{d:List α}{k:Nat}(h:k<d.length):at_ d k=d[k]:=by simp[at_,List.getD_eq_getElem?_getD,h]
theorem UR{d:List α}{i j:Nat}(h:j≤d.length):(lK d i j).length=j-i:=by simp[lK];omega
theorem LI{d:List α}{i j k:Nat}(h:j≤d.length)(hk:k<j-i):(lK d i j)[k]?=some (at_ d (i+k)):=by
 have:i+k<d.length:=by omega
 simp[lK,List.getElem?_take,hk,at_,List.getD_eq_getElem?_getD,this]
theorem Fq{d:List α}{i j:Nat}{x:α}(h:j≤d.length)(hx:x∈lK d i j):∃k,i≤k∧k<j∧x=at_ d k:=by
 obtain⟨k,hk,e⟩:=List.getElem_of_mem hx;have qB:=hk;rw[UR h]at qB;have h2:=LI h qB;rw[List.getElem?_eq_getElem hk,e]at h2;exact⟨i+k,by omega,by omega,Option.some.inj h2⟩
theorem Ve{d:List α}{i j:Nat}(h:j≤d.length)(hs:iv le (lK d i j)):AY le d i j:=fun k l h1 h2 h3=>by
 have hl:=UR (i:=i) h;have e1:=LI (i:=i) (k:=k-i) h zO;have e2:=LI (i:=i) (k:=l-i) h zO;have hk:k-i<(lK d i j).length:=by omega
 have BL:l-i<(lK d i j).length:=by omega
 rw[List.getElem?_eq_getElem hk,show i+(k-i)=k by omega]at e1;rw[List.getElem?_eq_getElem BL,show i+(l-i)=l by omega]at e2;rw[←Option.some.inj e1,←Option.some.inj e2];exact List.pairwise_iff_getElem.1 hs _ _ hk BL zO
structure Mq(le:α→α→Bool)(d:List α)(lo hi p start r:Nat):Prop where
 h1:lo≤start
 h2:start≤r
 h3:r≤hi
 l:start=lo∨le (at_ d (start-1)) (at_ d (p-(start-1)))=true
 r:r=hi∨le (at_ d r) (at_ d (p-r))=false
structure Wo(le:α→α→Bool)(d:List α)(a m b mid s e:Nat):Prop where
 s1:a≤s
 s2:s≤m
 e1:m≤e
 e2:e≤b
 m1:s≤mid
 m2:mid≤e
 len:e-m=mid-s
 lo:∀x∈lK d a s,∀y∈lK d e b,le x y=true
 up:∀x∈lK d s m,∀y∈lK d m e,le x y=false
theorem akQ(hp:ve le){d:List α}{a m b mid lo hi s:Nat}(ham:a<m)(hmb:m<b)(hb:b≤d.length)(hA:AY le d a m)(hB:AY le d m b)(hm:mid=(a+b)/2)
  (pd:lo=if mid<m then mid+m-b else a)(zt:hi=if mid<m then mid else m)(h:Mq le d lo hi (mid+m-1) s s):Wo le d a m b mid s (mid+m-s):=by
 have b1:=h.h1;have b2:=h.h3;have aqk:a≤lo∧mid+m-b≤lo∧hi≤m∧hi≤mid:=by
  by_cases c:mid<m
  ·rw[if_pos c]at pd zt;omega
  ·rw[if_neg c]at pd zt;omega
 refine⟨by omega,by omega,by omega,by omega,by omega,by omega,by omega,fun x hx y hy=>?_,fun x hx y hy=>?_⟩
 ·obtain⟨k,k1,k2,rfl⟩:=Fq zO hx;obtain⟨l,l1,l2,rfl⟩:=Fq zO hy;rcases h.l with e|e
  ·exfalso;by_cases c:mid<m
   ·rw[if_pos c]at pd;omega
   ·rw[if_neg c]at pd;omega
  ·rw[show mid+m-1-(s-1)=mid+m-s by omega]at e;have q1:le (at_ d k) (at_ d (s-1))=true:=by
    rcases Nat.lt_or_ge k (s-1)with q|q
    ·exact hA k (s-1) zO q zO
    ·rw[show k=s-1 by omega];exact hp.refl _
   have q2:le (at_ d (mid+m-s)) (at_ d l)=true:=by
    rcases Nat.lt_or_ge (mid+m-s) l with q|q
    ·exact hB _ l zO q zO
    ·rw[show l=mid+m-s by omega];exact hp.refl _
   exact hp.jO _ _ _ (hp.jO _ _ _ q1 e) q2
 ·obtain⟨k,k1,k2,rfl⟩:=Fq zO hx;obtain⟨l,l1,l2,rfl⟩:=Fq zO hy;rcases h.r with e|e
  ·exfalso;by_cases c:mid<m
   ·rw[if_pos c]at zt;omega
   ·rw[if_neg c]at zt;omega
  ·cases q:le (at_ d k) (at_ d l)with
   |false=>rfl
   |true=>
    exfalso;rw[show mid+m-1-s=mid+m-s-1 by omega]at e;have q1:le (at_ d s) (at_ d k)=true:=by
     rcases Nat.lt_or_ge s k with q|q
     ·exact hA s k zO q zO
     ·rw[show k=s by omega];exact hp.refl _
    have q2:le (at_ d l) (at_ d (mid+m-s-1))=true:=by
     rcases Nat.lt_or_ge l (mid+m-s-1)with q|q
     ·exact hB l _ zO q zO
     ·rw[show l=mid+m-s-1 by omega];exact hp.refl _
    rw[hp.jO _ _ _ (hp.jO _ _ _ q1 q) q2]at e;cases e
end
section
variable{α:Type} {le:α→α→Bool}
def oT(le:α→α→Bool)(s:Nat):Nat→List α→List α
 |0,l=>l.mergeSort le
 |n+1,l=>if l.length≤s then l.mergeSort le else(l.take s).mergeSort le++oT le s n (l.drop s)
def bw(le:α→α→Bool)(s:Nat)(l:List α):List α:=oT le s l.length l
theorem Na{s:Nat}(hs:0<s):∀(n m:Nat)(l:List α),l.length≤n→l.length≤m→oT le s n l=oT le s m l
 |0,0,_,_,_=>rfl
 |0,m+1,l,h,_=>by
  have:l.length≤s:=by omega
  rw[oT,oT,if_pos this]
 |n+1,0,l,_,h=>by
  have:l.length≤s:=by omega
  rw[oT,oT,if_pos this]
 |n+1,m+1,l,h1,h2=>by
  rw[oT,oT];split
  ·rfl
  ·rw[Na hs n m (l.drop s) zQ zQ]
theorem r_{s:Nat}{l:List α}(h:l.length≤s):bw le s l=l.mergeSort le:=by
 unfold bw;cases hl:l.length with
 |zero=>rfl
 |succ n=>rw[oT,if_pos h]
theorem Nc{s:Nat}(hs:0<s){l:List α}(h:s<l.length):bw le s l=(l.take s).mergeSort le++bw le s (l.drop s):=by
 unfold bw;cases hl:l.length with
 |zero=>omega
 |succ n=>rw[oT,if_neg zO,Na hs n _ (l.drop s) zQ (Nat.le_refl _)]
theorem Ae:([]:List α).mergeSort le=[]:=by simp[List.mergeSort]
theorem DP{s:Nat}(hs:0<s){l:List α}(h:s≤l.length):bw le s l=(l.take s).mergeSort le++bw le s (l.drop s):=by
 rcases Nat.lt_or_ge s l.length with k|k
 ·exact Nc hs k
 ·have e:l.length=s:=by omega
  rw[r_ zO,List.take_of_length_le zO,r_ zQ,List.drop_eq_nil_of_le zO,Ae,List.append_nil]
theorem rP(l:List α):(l.mergeSort le).length=l.length:=(List.mergeSort_perm l le).length_eq
theorem Nb{s:Nat}(hs:0<s)(l:List α):(bw le s l).length=l.length:=by
 have key:∀n(l:List α),(oT le s n l).length=l.length:=fun n=>by
  induction n with
  |zero=>intro l;exact rP l
  |succ n ih=>
   intro l;rw[oT];split
   ·exact rP l
   ·rw[List.length_append,rP,ih,List.length_take,List.length_drop];omega
 exact key _ l
variable(hp:ve le)
include hp
theorem Xh{s:Nat}(hs:0<s){l:List α}(h:2*s≤l.length):
  bw le s l=(l.take s).mergeSort le++(((l.drop s).take s).mergeSort le++bw le s (l.drop (2*s)))∧List.merge ((l.take s).mergeSort le) (((l.drop s).take s).mergeSort le) le=(l.take (2*s)).mergeSort le:=by
 refine⟨?_,?_⟩
 ·rw[DP hs zO,DP hs (l:=l.drop s) zQ,List.drop_drop];rw[show s+s=2*s by omega]
 ·rw[Kr hp]
  congr 1
  rw[show 2*s=s+s by omega,List.take_add]
theorem Xf{s:Nat}(hs:0<s){l:List α}(h1:s<l.length)(h2:l.length≤2*s):
  bw le s l=(l.take s).mergeSort le++(l.drop s).mergeSort le∧List.merge ((l.take s).mergeSort le) ((l.drop s).mergeSort le) le=bw le (2*s) l:=by
 refine⟨?_,?_⟩
 ·rw[Nc hs h1,r_ (s:=s) (l:=l.drop s) zQ]
 ·rw[Kr hp,List.take_append_drop,r_ h2]
theorem adG{l s1 s2:List α}{e:α}(h:l.mergeSort le=s1++s2)(h1:∀x∈s1,le x e=true)(h2:∀x∈s2,le x e=false):s1++e::s2=(l++[e]).mergeSort le:=by
 have hs:=s4 hp l;rw[h]at hs;have h3:=SD hp hs h1 h2;have h4:=Kr hp l [e];rw[h,show([e]:List α).mergeSort le=[e] by simp[List.mergeSort],h3]at h4;exact h4
theorem Vd{s1:List α}{z e:α}(h:iv le (s1++[z]))(hz:le z e=true):∀x∈s1++[z],le x e=true:=fun x hx=>by
 rcases List.mem_append.1 hx with k|k
 ·exact hp.jO _ _ _ ((List.pairwise_append.1 h).2.2 x k z zS) hz
 ·obtain rfl:x=z:=by simpa using k
  exact hz
end
section
variable{α:Type}
theorem akH(a b c:List α)(x y:α):((a++x::b++y::c).set a.length y).set (a.length+1+b.length) x=a++y::b++x::c:=by
 have e1:(a++x::b++y::c).set a.length y=a++y::b++y::c:=by
  rw[List.append_assoc,List.set_append_right _ _ (Nat.le_refl _),Nat.sub_self,List.cons_append,List.set_cons_zero,←List.cons_append,←List.append_assoc]
 rw[e1];have e2:a.length+1+b.length=(a++y::b).length:=by simp;omega
 rw[e2,List.set_append_right _ _ (Nat.le_refl _),Nat.sub_self,List.set_cons_zero]
theorem zU(l:List α):l=[]∨∃p x,l=p++[x]:=by
 rcases l.eq_nil_or_concat with h|⟨p,x,h⟩
 ·exact .inl h
 ·exact .inr ⟨p,x,by simpa using h⟩
variable{le:α→α→Bool} (hp:ve le)
include hp
theorem Lj{l p q:List α}{x:α}(hl:l.mergeSort le=p++q)(hq:∀y∈q,le y x=false)(hn:p=[]∨∃r z,p=r++[z]∧le z x=true):p++x::q=(l++[x]).mergeSort le:=by
 refine adG hp hl (fun y hy=>?_) hq;rcases hn with rfl|⟨r,z,rfl,hz⟩
 ·cases hy
 ·have hs:=s4 hp l;rw[hl]at hs;exact Vd hp (List.pairwise_append.1 hs).1 hz y hy
end
open Go
structure bj where
 cur:ae
 cV:ae
 deriving DecidableEq,Inhabited
structure jR where
 id:ae
 ie:ae
 G9:Int
 opened:Int
 eX:ae
 cost:ae
 used:ae
 deriving DecidableEq,Inhabited
structure jF where
 fe:ae
 iO:ae
 ie:ae
 G9:Int
 closed:Int
 eX:ae
 ahT:ae
 cost:ae
 deferred:ae
 ai1:ae
 deriving DecidableEq,Inhabited
structure jT where
 fe:ae
 src:ae
 dst:ae
 eX:ae
 made:ae
 cost:ae
 deriving DecidableEq,Inhabited
structure tA where
 name:ae
 cV:ae
 deriving DecidableEq,Inhabited
structure jw where
 kind:Int
 day:Int
 fe:ae
 ie:ae
 other:ae
 cur:ae
 akX:List tA
 deriving DecidableEq,Inhabited
structure jS where
 key:ae
 err:Int
 deriving DecidableEq,Inhabited
@[reducible] def bU(x:bj):List D:=[.str x.cur,.str x.cV]
@[reducible] def iA(x:jR):List D:=[.str x.id,.str x.ie,.i x.G9,.i x.opened,.str x.eX,.str x.cost,.str x.used]
@[reducible] def gX(x:jF):List D:=[.str x.fe,.str x.iO,.str x.ie,.i x.G9,.i x.closed,.str x.eX,.str x.ahT,.str x.cost,.str x.deferred,.str x.ai1]
@[reducible] def iC(x:jT):List D:=[.str x.fe,.str x.src,.str x.dst,.str x.eX,.str x.made,.str x.cost]
@[reducible] def y0(x:tA):List D:=[.str x.name,.str x.cV]
@[reducible] def ei(x:jw):List D:=[.i x.kind,.i x.day,.str x.fe,.str x.ie,.str x.other,.str x.cur,.snap 2 false (x.akX.map y0)]
@[reducible] def iB(x:jS):List D:=[.str x.key,.i x.err]
structure hG{α:Type}(c:α→α→Int):Prop where
 neg:∀x y,c y x=-c x y
 jO:∀x y z,c x y≤0→c y z≤0→c x z≤0
namespace hG
variable{α β:Type} {c d:α→α→Int}
theorem strict(h:hG c){x y z:α}(h1:c x y<0)(h2:c y z≤0):c x z<0:=by
 rcases Int.lt_or_le (c x z) 0 with k|k
 ·exact k
 ·have e1:=h.neg x z;have e2:=h.neg x y;have h3:=h.jO y z x h2 zO;omega
theorem Vi(h:hG c){x y z:α}(h1:c x y≤0)(h2:c y z<0):c x z<0:=by
 rcases Int.lt_or_le (c x z) 0 with k|k
 ·exact k
 ·have e1:=h.neg x z;have e2:=h.neg y z;have h3:=h.jO z x y zO h1;omega
theorem lex(h:hG c)(k:hG d):hG fun x y=>if c x y≠0 then c x y else d x y:=⟨fun x y=>by
 have e1:=h.neg x y;have e2:=k.neg x y;by_cases hc:c x y=0
 ·rw[if_neg zO,if_neg zO];exact e2
 ·rw[if_pos zO,if_pos zO];exact e1,fun x y z h1 h2=>by
 by_cases a:c x y=0
 ·rw[if_neg zO]at h1;by_cases b:c y z=0
  ·rw[if_neg zO]at h2;have t1:=h.jO x y z zO zO;have e1:=h.neg x y;have e2:=h.neg y z;have e3:=h.neg x z;have t2:=h.jO z y x zO zO;rw[if_neg zO];exact k.jO x y z h1 h2
  ·rw[if_pos b]at h2;have:=h.Vi (x:=x) (y:=y) (z:=z) zO zO;rw[if_pos zO];omega
 ·rw[if_pos a]at h1;have h3:c y z≤0:=by
   by_cases b:c y z=0
   ·omega
   ·rw[if_pos b]at h2;exact h2
  have:=h.strict (x:=x) (y:=y) (z:=z) zO h3;rw[if_pos zO];omega⟩
theorem on(h:hG c)(f:β→α):hG fun x y=>c (f x) (f y):=⟨fun x y=>h.neg _ _,fun x y z=>h.jO _ _ _⟩
end hG
theorem tG:hG dm:=by
 have e:∀a b:ae,dm a b=if a<b then -1 else if b<a then 1 else 0:=fun a b=>by
  unfold dm;simp only[Fl]
 have M4:∀a b:ae,a<b→¬b<a:=fun a b h1 h2=>List.lt_irrefl a (List.lt_trans h1 h2);refine⟨fun a b=>?_,fun a b c h1 h2=>?_⟩
 ·rw[e,e];by_cases h1:a<b
  ·rw[if_neg (M4 a b h1),if_pos h1,if_pos h1];rfl
  ·by_cases h2:b<a
   ·rw[if_pos h2,if_neg h1,if_pos h2]
   ·rw[if_neg h2,if_neg h1,if_neg h1,if_neg h2];rfl
 ·have k:∀a b:ae,dm a b≤0↔a≤b:=fun a b=>by
   rw[e,←List.not_lt];by_cases h1:a<b
   ·rw[if_pos h1];exact⟨fun _=>M4 a b h1,fun _=>by decide⟩
   ·by_cases h2:b<a
    ·rw[if_neg h1,if_pos h2];simp[h2]
    ·rw[if_neg h1,if_neg h2];simp[h2]
  rw[k]at*;exact List.le_trans h1 h2
theorem HE:hG (fun a b:Int=>if a<b then -1 else if b<a then 1 else 0):=⟨fun a b=>by grind,fun a b c=>by grind⟩
theorem YC:hG fun a b:ae=>jf (val a-val b):=⟨fun a b=>by unfold jf;grind,fun a b c=>by unfold jf;grind⟩
def qi{α:Type}(c:α→α→Int):List α→List α→Int
 |[],[]=>0
 |[],_::_=>-1
 |_::_,[]=>1
 |a::x,b::y=>if c a b≠0 then c a b else qi c x y
theorem YB{α:Type}{c:α→α→Int}(h:hG c):hG (qi c):=by
 have ng:∀x y,qi c y x=-qi c x y:=fun x=>by
  induction x with
  |nil=>intro y;cases y<;>rfl
  |cons a x ih=>
   intro y;cases y with
   |nil=>rfl
   |cons b y=>
    simp only[qi];have e1:=h.neg a b;have e2:=ih y;by_cases hc:c a b=0
    ·rw[if_neg zO,if_neg zO];exact e2
    ·rw[if_pos zO,if_pos zO];exact e1
 refine⟨ng,fun x=>?_⟩;induction x with
 |nil=>intro y z _ _;cases z<;>simp[qi]
 |cons a x ih=>
  intro y z h1 h2;cases y with
  |nil=>simp[qi]at h1
  |cons b y=>
   cases z with
   |nil=>simp[qi]at h2
   |cons e z=>
    simp only[qi]at*;by_cases q:c a b=0
    ·rw[if_neg zO]at h1;by_cases r:c b e=0
     ·rw[if_neg zO]at h2;have t1:=h.jO a b e zO zO;have e1:=h.neg a b;have e2:=h.neg b e;have e3:=h.neg a e;have t2:=h.jO e b a zO zO;rw[if_neg zO];exact ih y z h1 h2
     ·rw[if_pos r]at h2;have:=h.Vi (x:=a) (y:=b) (z:=e) zO zO;rw[if_pos zO];omega
    ·rw[if_pos q]at h1;have h3:c b e≤0:=by
      by_cases r:c b e=0
      ·omega
      ·rw[if_pos r]at h2;exact h2
     have:=h.strict (x:=a) (y:=b) (z:=e) zO h3;rw[if_pos zO];omega
def bA{α:Type}(c:α→α→Int)(x y:α):Bool:=decide (0≤c y x)
theorem hG.pre{α:Type}{c:α→α→Int}(h:hG c):ve (bA c):=⟨fun a b=>by
 have:=h.neg a b;simp only[bA,decide_eq_true_eq];omega,fun a b d h1 h2=>by
 simp only[bA,decide_eq_true_eq]at*;have e1:=h.neg a b;have e2:=h.neg b d;have e3:=h.neg a d;have:=h.jO a b d zO zO;omega⟩
theorem J5{α:Type}{c:α→α→Int}{x y:α}(h:decide (c x y<0)=true):bA c y x=false:=by
 simp only[bA,decide_eq_true_eq,decide_eq_false_iff_not]at*;omega
theorem J4{α:Type}{c:α→α→Int}{x y:α}(h:decide (c x y<0)=false):bA c y x=true:=by
 simp only[bA,decide_eq_true_eq,decide_eq_false_iff_not]at*;omega
@[reducible] def sorted{α:Type}(c:α→α→Int)(l:List α):List α:=l.mergeSort (bA c)
end Go.T
