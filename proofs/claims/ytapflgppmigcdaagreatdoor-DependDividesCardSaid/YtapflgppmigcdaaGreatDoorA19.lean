/-
  Contracts of the functions that the statement reaches, and the logic in which they are proved (no condition): parts W116, W117, W118, W119, W120, SpecV1, W121, W122.
-/
import Derived.Test.YtapflgppmigcdaaGreatDoorA18
set_option linter.all false
namespace Go.T
open Go Go.Proofs Go.Proofs.Tryz
set_option maxRecDepth 20000
structure qt(f:Fact):Prop where
 fe:∀p∈f.fe,p.fc.length≤200∧p.c_.length≤13
 c_:f.c_.length≤13
 mH:f.mH.length≤13
 mP:f.mP.length≤13
 du:j2 f.du
 ratio:j2 f.ratio
 share:j2 f.share
 opts:∀o∈f.opts,j2 o.ratio∧j2 o.du∧j2 o.value
theorem X4{a:aa}(h:(decide (0<(a.length:Int))&&decide (((a.headD 0).toNat:Int)=45))=true):(a.length:Int)-1=i_ a:=by
 rw[Bool.and_eq_true]at h;have h1:a≠[]:=by rintro rfl;simp at h
 unfold i_;rw[if_pos (by rw[h.2];simpa using h1)]
theorem X3{a:aa}(h:(decide (0<(a.length:Int))&&decide (((a.headD 0).toNat:Int)=45))=false):(a.length:Int)=i_ a:=by
 unfold i_;rw[if_neg];intro k;rw[Bool.and_eq_true]at k;have h1:a≠[]:=by simpa using k.1
 have:0<a.length:=List.length_pos_iff.2 h1;rw[k.2]at h;simp at h;exact h1 h
theorem ag_{f:Fact}{c:Bool}(h:c=false)(h2:(!isName f.other)=true):23=kl f c:=by
 have e:iq f.other=23:=by unfold iq;rw[if_pos h2]
 have:=JC (f:=f) h (by rw[e];decide);rwa[e]at this
theorem R2{f:Fact}(h2:(!isName f.other)=false):decide (iq f.other≠0)=false:=by
 have e:iq f.other=0:=by unfold iq;rw[if_neg (by rw[h2];simp)]
 rw[e];decide
theorem num_1{f:aP}(h:decide (jM f≠0)=true):1=lO f:=by unfold lO;rw[if_pos h]
theorem ags{f:aP}(h:decide (jM f≠0)=false)(h2:(decide (40<i_ f.num)||decide (40<i_ f.den))=true):4=lO f:=by
 unfold lO;rw[if_neg (by rw[h];simp),if_pos];simp only[Bool.or_eq_true,decide_eq_true_eq]at h2⊢;omega
theorem agt{f:aP}(h:decide (jM f≠0)=false)(h2:(decide (40<i_ f.num)||decide (40<i_ f.den))=false):0=lO f:=by
 unfold lO;rw[if_neg (by rw[h];simp),if_neg];simp only[Bool.or_eq_false_iff,decide_eq_false_iff_not,decide_eq_true_eq]at h2⊢;omega
theorem Gg(a:aa):Fc Tryz.prog 194 [.str a] (.i (i_ a)):=by
 refine Fc.mk' [2] func194 rfl ntmps194 rfl rfl rfl (fun t w=>results_tmp results194 t _ w) ?_;refine J.l7 0 rfl (fun hb=>?_);simp only[aG]at hb;refine J.seq (J.af [.p] ?_);refine .ag rfl rfl<|.nil ?_;refine J.seq (J.seq (J.af [.p,.p,.p,.p,.p,.p,.p,.p] ?_));refine .mv rfl rfl<|.P rfl (fZ underlying33 rfl)<|.P rfl (gp rfl rfl)<|.mv rfl rfl<|.gT rfl (.inl rfl) rfl rfl rfl (fun hg=>pk (fun _=>aX rfl _))<|.gT rfl (.inl rfl) rfl rfl rfl (fun hg=>pk (fun _=>oe underlying33 (bj rfl hg) rfl (c:=a.headD 0) zD (Dy rfl (by simpa using hg)) _))<|.gT rfl (.inl rfl) rfl rfl rfl (fun hg=>pk (fun _=>jF (bj rfl hg) rfl _))<|.P rfl (gD rfl rfl)<|.nil ?_;refine J.cond rfl (fun h1=>?_) (fun h1=>?_)
 ·refine J.seq (J.af [.p,.p,.p,.p] ?_);refine .mv rfl rfl<|.P rfl (fZ underlying33 rfl)<|.P rfl (dQ rfl rfl (az zO))<|.ag rfl rfl<|.nil ?_;refine J.ret (?_);exact dF rfl (Sub.int (by exact X4 h1))
 ·refine J.skip ?_;refine J.seq (J.af [.p,.p,.p] ?_);refine .mv rfl rfl<|.P rfl (fZ underlying33 rfl)<|.ag rfl rfl<|.nil ?_;refine J.ret (?_);exact dF rfl (Sub.int (by exact X3 h1))
structure WZ(s:aa)where
 pre:List UInt8
 rest:List UInt8
 hx:s=pre++rest
 hp:pre.all (fun c=>65≤c.toNat&&c.toNat≤90)=true
theorem L4(s:aa):Fc Tryz.prog 139 [.str s] (.b (gA s)):=by
 refine Fc.mk' [2] func139 rfl ntmps139 rfl rfl rfl (fun t w=>results_tmp results139 t _ w) ?_;refine J.l7 0 rfl (fun hb=>?_);simp only[aG]at hb;refine J.seq (J.af [.p] ?_);refine .ag rfl rfl<|.nil ?_;refine J.seq (J.seq (J.af [.p] ?_));refine .ag rfl rfl<|.nil ?_;refine J.block ?_;refine J.loop (ι:=WZ s) (fun sx=>[(0,.str s),(3,.i sx.pre.length)]) (fun sx=>[]) (fun sx=>sx.rest.length) ⟨[],s,rfl,rfl⟩ ?_ ?_
 ·exact Le.mk rfl (.s rfl rfl (.s rfl rfl .nil)) .nil
 ·rintro⟨pre,rest,hx,hp⟩;show J _ _ _ _ [(0,.str s),(3,.i pre.length)] [];have hl:=congrArg List.length hx;simp only[List.length_append]at hl;rcases rest with _|⟨x,rest⟩
  ·skip;refine J.seq (J.seq (J.af [.p,.p,.p,.p] ?_));refine .mv rfl rfl<|.mv rfl rfl<|.P rfl (fZ underlying9 rfl)<|.P rfl (b_ rfl rfl)<|.nil ?_;refine J.eQ rfl (by simp at hl⊢;omega) ?_;refine J.exit (ei (dZ ?_));refine J.seq (J.af [.p,.p,.p,.p] ?_);refine .mv rfl rfl<|.P rfl (fZ underlying9 rfl)<|.P rfl (jF rfl rfl)<|.ag rfl rfl<|.nil ?_;refine J.ret (?_);exact dF rfl (Sub.bool (by grind[gA]))
  ·simp only[List.length_cons]at hl;refine J.seq (J.seq (J.af [.p,.p,.p,.p] ?_));refine .mv rfl rfl<|.mv rfl rfl<|.P rfl (fZ underlying9 rfl)<|.P rfl (b_ rfl rfl)<|.nil ?_;refine J.fD rfl zQ ?_;refine J.skip ?_;refine J.seq ?_;refine J.block ?_;refine J.seq (J.af [.p,.p,.p,.p,.p,.p,.p,.p,.p,.p] ?_);refine .mv rfl rfl<|.mv rfl rfl<|.P rfl (oe underlying9 rfl rfl zO (mY hx rfl))<|.P rfl (b_ rfl rfl)<|.mv rfl rfl<|.gF rfl (.inl rfl) rfl rfl rfl (fun hg=>pk (fun _=>aX rfl _))<|.gF rfl (.inl rfl) rfl rfl rfl (fun hg=>pk (fun _=>aX rfl _))<|.gF rfl (.inl rfl) rfl rfl rfl (fun hg=>pk (fun _=>oe underlying9 (bj rfl (nt hg)) (bj rfl (nt hg)) zO (mY hx rfl) _))<|.gF rfl (.inl rfl) rfl rfl rfl (fun hg=>pk (fun _=>gp (bj rfl (nt hg)) rfl _))<|.P rfl (nq rfl rfl)<|.nil ?_;refine J.cond rfl (fun h1=>?_) (fun h1=>?_)
   ·refine J.seq (J.af [.p] ?_);refine .ag rfl rfl<|.nil ?_;refine J.ret (jn (rr (jn (?_))));exact dF rfl (Sub.bool (by grind[gA]))
   ·refine J.skip ?_;refine J.nil (cC ?_);refine J.af [.p,.p,.p] ?_;refine .mv rfl rfl<|.P rfl (bU rfl rfl (az zO))<|.ag rfl rfl<|.nil ?_;refine J.nil (dG ?_);exact⟨⟨pre++[x],rest,by simp[hx],by grind⟩,by simp,Le.mk rfl (.s rfl rfl (.cons rfl (Sub.int zS) rfl .nil)) .nil⟩
theorem agw(f:aP)(hf:j2 f):Fc Tryz.prog 190 [.agg (cG f)] (.i (lO f)):=by
 refine Fc.mk' [2] func190 rfl ntmps190 rfl rfl rfl (fun t w=>results_tmp results190 t _ w) ?_;refine go [] ?_;refine oP (ai call249 rfl (Wp _ zA)) ?_;refine br (fun h1=>?_) (fun h1=>?_)
 ·exact ah rfl (Sub.int (by exact num_1 h1))
 ·refine oP (ai call194 rfl (Gg _)) ?_;refine gP (fun hg=>ai call194 rfl (Gg _)) ?_;refine br (fun h2=>?_) (fun h2=>?_)
  ·exact ah rfl (Sub.int (by exact ags h1 h2))
  ·exact ah rfl (Sub.int (by exact agt h1 h2))
theorem agB(k:Int):Fc Tryz.prog 192 [.i k] (.b (zx k)):=by
 refine Fc.mk' [2] func192 rfl ntmps192 rfl rfl rfl (fun t w=>results_tmp results192 t _ w) ?_;refine go [] ?_;exact ah rfl (Sub.refl _)
theorem alX(a:aa)(pos:Bool):Fc Tryz.prog 140 [.str a,.str (if pos then[49]else[])] (.i (w7 pos a)):=by
 refine Fc.mk' [4] func140 rfl ntmps140 rfl rfl rfl (fun t w=>results_tmp results140 t _ w) ?_;refine go [] ?_;refine oP (ai call193 rfl (Wj _)) ?_;refine br (fun h1=>?_) (fun h1=>?_)
 ·exact ah rfl (Sub.int (by unfold w7;exact iT h1))
 ·refine oP (ai call194 rfl (Gg _)) ?_;refine br (fun h2=>?_) (fun h2=>?_)
  ·exact ah rfl (Sub.int (by unfold w7;exact iF h1 (iT h2)))
  ·refine oP (ai call195 rfl (xl _ _)) ?_;refine br (fun h3=>?_) (fun h3=>?_)
   ·exact ah rfl (Sub.int (by unfold w7;exact iF h1 (iF h2 (iT h3))))
   ·exact ah rfl (Sub.int (by unfold w7;exact iF h1 (iF h2 (iF h3 (rfl)))))
theorem KR(a:aa)(pos:Bool):Fc Tryz.prog 140 [.str a,.str (if pos then[49]else[])] (.i (eF pos false ⟨a,[]⟩)):=by
 have:=alX a pos;rwa[alZ]at this
theorem Uz(a:aa):Fc Tryz.prog 140 [.str a,.str [49]] (.i (eF true false ⟨a,[]⟩)):=KR a true
theorem alY(a:aa):Fc Tryz.prog 140 [.str a,.str []] (.i (eF false false ⟨a,[]⟩)):=KR a false
theorem agv(f:aP)(pos:Bool)(hf:j2 f):Fc Tryz.prog 142 [.agg (cG f),.b pos] (.i (yI pos f)):=by
 refine Fc.mk' [4] func142 rfl ntmps142 rfl rfl rfl (fun t w=>results_tmp results142 t _ w) ?_;refine go [] ?_;refine oP (ai call190 rfl (agw _ zA)) ?_;refine br (fun h1=>?_) (fun h1=>?_)
 ·exact ah rfl (Sub.int (by unfold yI;exact iT h1))
 ·refine oP (ai call191 rfl (EU _ zA)) ?_;refine gP (fun hg=>ai call191 rfl (EU _ zA)) ?_;refine br (fun h2=>?_) (fun h2=>?_)
  ·exact ah rfl (Sub.int (by unfold yI;exact iF h1 (iT h2)))
  ·exact ah rfl (Sub.int (by unfold yI;exact iF h1 (iF h2 (rfl))))
theorem yH(f:aP)(pos:Bool)(hf:j2 f):Fc Tryz.prog 142 [.agg (cG f),.b pos] (.i (eF pos false f)):=by
 have:=agv f pos hf;rwa[agx]at this
theorem Ri(s:aa):Fc Tryz.prog 137 [.str s] (.i (iq s)):=by
 refine Fc.mk' [2] func137 rfl ntmps137 rfl rfl rfl (fun t w=>results_tmp results137 t _ w) ?_;refine go [] ?_;refine oP (ai call94 rfl (Ba _)) ?_;refine br (fun h1=>?_) (fun h1=>?_)
 ·exact ah rfl (Sub.int (by unfold iq;exact iT h1))
 ·exact ah rfl (Sub.int (by unfold iq;exact iF h1 (rfl)))
theorem ag'(f:Fact):Fc Tryz.prog 138 [.agg (aM f)] (.i (kl f (zx f.kind))):=by
 refine Fc.mk' [2] func138 rfl ntmps138 rfl rfl rfl (fun t w=>results_tmp results138 t _ w) ?_;refine go [] ?_;refine oP (ai call192 rfl (agB _)) ?_;refine br (fun h1=>?_) (fun h1=>?_)
 ·refine oP (ai call139 rfl (L4 _)) ?_;refine br (fun h2=>?_) (fun h2=>?_)
  ·exact ah rfl (Sub.int (by exact Jz h1 h2))
  ·refine br (fun h3=>?_) (fun h3=>?_)
   ·exact ah rfl (Sub.int (by exact JA h1 h2 h3))
   ·exact ah rfl (Sub.int (by exact JB h1 h2 h3))
 ·refine oP (ai call94 rfl (Ba _)) ?_;refine br (fun h4=>?_) (fun h4=>?_)
  ·exact ah rfl (Sub.int (by exact ag_ h1 h4))
  ·refine br (fun h5=>?_) (fun h5=>?_)
   ·exact ah rfl (Sub.int (by exact JD h1 (R2 h4) h5))
   ·exact ah rfl (Sub.int (by exact JE h1 (R2 h4) h5))
@[reducible] def sK(l:List Int):D:=.snap 1 false (l.map fun(n:Int)=>[D.i n])
theorem Qi(k n:Int):(if yT k n then([49]:aa)else[])=if(decide (n=6)||(decide (n=5)&&(decide (k=3)||decide (k=4))))=true then[]else[49]:=by
 unfold yT;cases(decide (n=6)||(decide (n=5)&&(decide (k=3)||decide (k=4))))<;>rfl
theorem aaR(k:Int):(qw k).length≤5:=by
 have H:∀(c:Prop)[Decidable c](a b:List Int),a.length≤5→b.length≤5→(if c then a else b).length≤5:=fun c _ a b ha hb=>by split<;>assumption
 unfold qw;repeat(first|decide|refine H _ _ _ zD ?_)
theorem GX(s:aa):decide (s=[])=decide ((⟨s,[]⟩:aP)=dH):=by
 rw[decide_eq_decide];simp[dH]
theorem aiT{k:Int}(h:qw k=[]):Sub (D.raw (Value.slice none 0 0)) (sK (qw k)):=by rw[h];exact Sub.nil _ _
theorem ae1(k n:Int):Fc Tryz.prog 141 [.i k,.i n] (.str (if yT k n then[49]else[])):=by
 refine Fc.mk' [4] func141 rfl ntmps141 rfl rfl rfl (fun t w=>results_tmp results141 t _ w) ?_;refine go [] ?_;refine br (fun h1=>?_) (fun h1=>?_)
 ·exact ah rfl (Sub.str (by rw[Qi];exact iT h1))
 ·exact ah rfl (Sub.str (by rw[Qi];exact iF h1 (rfl)))
theorem aaS(k:Int):Fc Tryz.prog 136 [.i k] (sK (qw k)):=by
 refine Fc.mk' [2] func136 rfl ntmps136 rfl rfl rfl (fun t w=>results_tmp results136 t _ w) ?_;refine go [] ?_;refine br (fun h1=>?_) (fun h1=>?_)
 ·refine a_ h1 ?_;refine oP (bI (n:=2) (rows:=[[D.i 2],[D.i 5]]) underlying25 sizeOf3 rfl rfl rfl zeroValue3 rfl rfl rfl rfl rfl rfl rfl) ?_;exact ah rfl (Sub.snap (by obtain rfl:=of_decide_eq_true h1;rfl))
 ·have bE:=h1;try simp only[bs]at bE
  refine br (fun h2=>?_) (fun h2=>?_)
  ·refine a_ h2 ?_;refine oP (bI (n:=2) (rows:=[[D.i 2],[D.i 5]]) underlying25 sizeOf3 rfl rfl rfl zeroValue3 rfl rfl rfl rfl rfl rfl rfl) ?_;exact ah rfl (Sub.snap (by obtain rfl:=of_decide_eq_true h2;rfl))
  ·have c7:=h2;try simp only[bs]at c7
   refine br (fun h3=>?_) (fun h3=>?_)
   ·refine a_ h3 ?_;refine oP (bI (n:=2) (rows:=[[D.i 2],[D.i 5]]) underlying25 sizeOf3 rfl rfl rfl zeroValue3 rfl rfl rfl rfl rfl rfl rfl) ?_;exact ah rfl (Sub.snap (by obtain rfl:=of_decide_eq_true h3;rfl))
   ·have fK:=h3;try simp only[bs]at fK
    refine br (fun h4=>?_) (fun h4=>?_)
    ·refine a_ h4 ?_;refine oP (bI (n:=2) (rows:=[[D.i 2],[D.i 5]]) underlying25 sizeOf3 rfl rfl rfl zeroValue3 rfl rfl rfl rfl rfl rfl rfl) ?_;exact ah rfl (Sub.snap (by obtain rfl:=of_decide_eq_true h4;rfl))
    ·have gm:=h4;try simp only[bs]at gm
     refine br (fun h5=>?_) (fun h5=>?_)
     ·refine oP (bI (n:=2) (rows:=[[D.i 2],[D.i 5]]) underlying25 sizeOf3 rfl rfl rfl zeroValue3 rfl rfl rfl rfl rfl rfl rfl) ?_;exact ah rfl (Sub.snap (by obtain rfl:=of_decide_eq_true h5;rfl))
     ·have oc:=h5;try simp only[bs]at oc
      refine br (fun h6=>?_) (fun h6=>?_)
      ·refine oP (bI (n:=4) (rows:=[[D.i 0],[D.i 4],[D.i 5],[D.i 6]]) underlying25 sizeOf3 rfl rfl rfl zeroValue3 rfl rfl rfl rfl rfl rfl rfl) ?_;exact ah rfl (Sub.snap (by obtain rfl:=of_decide_eq_true h6;rfl))
      ·have sQ:=h6;try simp only[bs]at sQ
       refine br (fun h7=>?_) (fun h7=>?_)
       ·refine oP (bI (n:=5) (rows:=[[D.i 0],[D.i 4],[D.i 5],[D.i 6],[D.i 10]]) underlying25 sizeOf3 rfl rfl rfl zeroValue3 rfl rfl rfl rfl rfl rfl rfl) ?_;exact ah rfl (Sub.snap (by obtain rfl:=of_decide_eq_true h7;rfl))
       ·have sR:=h7;try simp only[bs]at sR
        refine br (fun h8=>?_) (fun h8=>?_)
        ·refine a_ h8 ?_;refine oP (bI (n:=2) (rows:=[[D.i 0],[D.i 7]]) underlying25 sizeOf3 rfl rfl rfl zeroValue3 rfl rfl rfl rfl rfl rfl rfl) ?_;exact ah rfl (Sub.snap (by obtain rfl:=of_decide_eq_true h8;rfl))
        ·have sS:=h8;try simp only[bs]at sS
         refine br (fun h9=>?_) (fun h9=>?_)
         ·refine a_ h9 ?_;refine oP (bI (n:=2) (rows:=[[D.i 0],[D.i 7]]) underlying25 sizeOf3 rfl rfl rfl zeroValue3 rfl rfl rfl rfl rfl rfl rfl) ?_;exact ah rfl (Sub.snap (by obtain rfl:=of_decide_eq_true h9;rfl))
         ·have sT:=h9;try simp only[bs]at sT
          refine br (fun cK=>?_) (fun cK=>?_)
          ·refine a_ cK ?_;refine oP (bI (n:=2) (rows:=[[D.i 0],[D.i 7]]) underlying25 sizeOf3 rfl rfl rfl zeroValue3 rfl rfl rfl rfl rfl rfl rfl) ?_;exact ah rfl (Sub.snap (by obtain rfl:=of_decide_eq_true cK;rfl))
          ·have sN:=cK;try simp only[bs]at sN
           refine br (fun cM=>?_) (fun cM=>?_)
           ·refine oP (bI (n:=2) (rows:=[[D.i 0],[D.i 7]]) underlying25 sizeOf3 rfl rfl rfl zeroValue3 rfl rfl rfl rfl rfl rfl rfl) ?_;exact ah rfl (Sub.snap (by obtain rfl:=of_decide_eq_true cM;rfl))
           ·have sO:=cM;try simp only[bs]at sO
            refine br (fun dN=>?_) (fun dN=>?_)
            ·refine oP (bI (n:=4) (rows:=[[D.i 1],[D.i 2],[D.i 4],[D.i 5]]) underlying25 sizeOf3 rfl rfl rfl zeroValue3 rfl rfl rfl rfl rfl rfl rfl) ?_;exact ah rfl (Sub.snap (by obtain rfl:=of_decide_eq_true dN;rfl))
            ·have sP:=dN;try simp only[bs]at sP
             refine br (fun fh=>?_) (fun fh=>?_)
             ·refine oP (bI (n:=3) (rows:=[[D.i 0],[D.i 7],[D.i 8]]) underlying25 sizeOf3 rfl rfl rfl zeroValue3 rfl rfl rfl rfl rfl rfl rfl) ?_;exact ah rfl (Sub.snap (by obtain rfl:=of_decide_eq_true fh;rfl))
             ·have Bv:=fh;try simp only[bs]at Bv
              refine br (fun me=>?_) (fun me=>?_)
              ·refine oP (bI (n:=5) (rows:=[[D.i 0],[D.i 1],[D.i 7],[D.i 8],[D.i 9]]) underlying25 sizeOf3 rfl rfl rfl zeroValue3 rfl rfl rfl rfl rfl rfl rfl) ?_;exact ah rfl (Sub.snap (by obtain rfl:=of_decide_eq_true me;rfl))
              ·have Bw:=me;try simp only[bs]at Bw
               refine br (fun mV=>?_) (fun mV=>?_)
               ·refine oP (bI (n:=2) (rows:=[[D.i 0],[D.i 11]]) underlying25 sizeOf3 rfl rfl rfl zeroValue3 rfl rfl rfl rfl rfl rfl rfl) ?_;exact ah rfl (Sub.snap (by obtain rfl:=of_decide_eq_true mV;rfl))
               ·have Bx:=mV;try simp only[bs]at Bx
                refine br (fun jt=>?_) (fun jt=>?_)
                ·have wG:=jt;try simp only[bs]at wG
                 refine oP (bI (n:=3) (rows:=[[D.i 0],[D.i 3],[D.i 12]]) underlying25 sizeOf3 rfl rfl rfl zeroValue3 rfl rfl rfl rfl rfl rfl rfl) ?_;exact ah rfl (Sub.snap (by obtain rfl:=of_decide_eq_true jt;rfl))
                ·have wG:=jt;try simp only[bs]at wG
                 refine br (fun mf=>?_) (fun mf=>?_)
                 ·have wH:=mf;try simp only[bs]at wH
                  refine oP (bI (n:=5) (rows:=[[D.i 0],[D.i 1],[D.i 4],[D.i 7],[D.i 8]]) underlying25 sizeOf3 rfl rfl rfl zeroValue3 rfl rfl rfl rfl rfl rfl rfl) ?_;exact ah rfl (Sub.snap (by obtain rfl:=of_decide_eq_true mf;rfl))
                 ·have wH:=mf;try simp only[bs]at wH
                  refine br (fun oI=>?_) (fun oI=>?_)
                  ·have wI:=oI;try simp only[bs]at wI
                   refine oP (bI (n:=3) (rows:=[[D.i 1],[D.i 2],[D.i 8]]) underlying25 sizeOf3 rfl rfl rfl zeroValue3 rfl rfl rfl rfl rfl rfl rfl) ?_;exact ah rfl (Sub.snap (by obtain rfl:=of_decide_eq_true oI;rfl))
                  ·have wI:=oI;try simp only[bs]at wI
                   exact ah rfl (by exact aiT (by simp only[qw, *,if_false]))
structure acv(k n:Int)where
 pre:List Int
 rest:List Int
 hx:qw k=pre++rest
 hp:pre.any (fun m=>decide (m=n))=false
theorem acu(k n:Int):Fc Tryz.prog 98 [.i k,.i n] (.b (kK k n)):=by
 refine Fc.mk' [4] func98 rfl ntmps98 rfl rfl rfl (fun t w=>results_tmp results98 t _ w) ?_;have iw:=aaR k;refine go [] ?_;refine oP (ai call136 rfl (aaS _)) ?_;refine J.loop (ι:=acv k n) (fun sx=>[(1,.i n),(5,sK (qw k)),(6,.i sx.pre.length)]) (fun sx=>[]) (fun sx=>sx.rest.length) ⟨[],_,rfl,rfl⟩ ?_ ?_
 ·exact Le.mk rfl (.s rfl rfl (.s rfl rfl (.s rfl rfl .nil))) .nil
 ·rintro⟨pre,rest,hx,hp⟩;show J _ _ _ _ [(1,.i n),(5,sK (qw k)),(6,.i pre.length)] [];have hl:=congrArg List.length hx;simp only[List.length_append]at hl;rcases rest with _|⟨x,rest⟩
  ·skip;refine go [] ?_;refine aR (by simp at hl⊢;omega) ?_;refine go [] ?_;exact ah rfl (Sub.bool (by unfold kK;grind))
  ·simp only[List.length_cons]at hl;refine go [] ?_;refine a_ zQ ?_;refine ix zO (bn (fun(n:Int)=>[D.i n]) hx rfl) ?_;refine br (fun h1=>?_) (fun h1=>?_)
   ·have bE:=h1;try simp only[bs]at bE
    exact ah rfl (Sub.bool (by unfold kK;grind))
   ·have bE:=h1;try simp only[bs]at bE
    refine sd (az zO) ?_;exact nx ⟨pre++[x],rest,by simp[hx],by grind⟩ zS (Le.mk rfl (.s rfl rfl (.s rfl rfl (.cons rfl (Sub.int zS) rfl .nil))) .nil)
theorem al2(k:Int):Fc Tryz.prog 97 [.i k] (.str (w8 k)):=by
 refine Fc.mk' [2] func97 rfl ntmps97 rfl rfl rfl (fun t w=>results_tmp results97 t _ w) ?_;refine go [] ?_;refine br (fun h1=>?_) (fun h1=>?_)
 ·have bE:=h1;try simp only[bs]at bE
  exact ah rfl (Sub.str (by obtain rfl:=of_decide_eq_true h1;rfl))
 ·have bE:=h1;try simp only[bs]at bE
  refine br (fun h2=>?_) (fun h2=>?_)
  ·have c7:=h2;try simp only[bs]at c7
   exact ah rfl (Sub.str (by obtain rfl:=of_decide_eq_true h2;rfl))
  ·have c7:=h2;try simp only[bs]at c7
   refine br (fun h3=>?_) (fun h3=>?_)
   ·have fK:=h3;try simp only[bs]at fK
    exact ah rfl (Sub.str (by obtain rfl:=of_decide_eq_true h3;rfl))
   ·have fK:=h3;try simp only[bs]at fK
    refine br (fun h4=>?_) (fun h4=>?_)
    ·have gm:=h4;try simp only[bs]at gm
     exact ah rfl (Sub.str (by obtain rfl:=of_decide_eq_true h4;rfl))
    ·have gm:=h4;try simp only[bs]at gm
     refine br (fun h5=>?_) (fun h5=>?_)
     ·have oc:=h5;try simp only[bs]at oc
      exact ah rfl (Sub.str (by obtain rfl:=of_decide_eq_true h5;rfl))
     ·have oc:=h5;try simp only[bs]at oc
      refine br (fun h6=>?_) (fun h6=>?_)
      ·have sQ:=h6;try simp only[bs]at sQ
       exact ah rfl (Sub.str (by obtain rfl:=of_decide_eq_true h6;rfl))
      ·have sQ:=h6;try simp only[bs]at sQ
       refine br (fun h7=>?_) (fun h7=>?_)
       ·have sR:=h7;try simp only[bs]at sR
        exact ah rfl (Sub.str (by obtain rfl:=of_decide_eq_true h7;rfl))
       ·have sR:=h7;try simp only[bs]at sR
        refine br (fun h8=>?_) (fun h8=>?_)
        ·have sS:=h8;try simp only[bs]at sS
         exact ah rfl (Sub.str (by obtain rfl:=of_decide_eq_true h8;rfl))
        ·have sS:=h8;try simp only[bs]at sS
         refine br (fun h9=>?_) (fun h9=>?_)
         ·have sT:=h9;try simp only[bs]at sT
          exact ah rfl (Sub.str (by obtain rfl:=of_decide_eq_true h9;rfl))
         ·have sT:=h9;try simp only[bs]at sT
          refine br (fun cK=>?_) (fun cK=>?_)
          ·have sN:=cK;try simp only[bs]at sN
           exact ah rfl (Sub.str (by obtain rfl:=of_decide_eq_true cK;rfl))
          ·have sN:=cK;try simp only[bs]at sN
           refine br (fun cM=>?_) (fun cM=>?_)
           ·have sO:=cM;try simp only[bs]at sO
            exact ah rfl (Sub.str (by obtain rfl:=of_decide_eq_true cM;rfl))
           ·have sO:=cM;try simp only[bs]at sO
            refine br (fun dN=>?_) (fun dN=>?_)
            ·have sP:=dN;try simp only[bs]at sP
             exact ah rfl (Sub.str (by obtain rfl:=of_decide_eq_true dN;rfl))
            ·have sP:=dN;try simp only[bs]at sP
             refine br (fun fh=>?_) (fun fh=>?_)
             ·have Bv:=fh;try simp only[bs]at Bv
              exact ah rfl (Sub.str (by obtain rfl:=of_decide_eq_true fh;rfl))
             ·have Bv:=fh;try simp only[bs]at Bv
              refine br (fun me=>?_) (fun me=>?_)
              ·have Bw:=me;try simp only[bs]at Bw
               exact ah rfl (Sub.str (by obtain rfl:=of_decide_eq_true me;rfl))
              ·have Bw:=me;try simp only[bs]at Bw
               refine br (fun mV=>?_) (fun mV=>?_)
               ·have Bx:=mV;try simp only[bs]at Bx
                exact ah rfl (Sub.str (by obtain rfl:=of_decide_eq_true mV;rfl))
               ·have Bx:=mV;try simp only[bs]at Bx
                refine br (fun jt=>?_) (fun jt=>?_)
                ·have wG:=jt;try simp only[bs]at wG
                 exact ah rfl (Sub.str (by obtain rfl:=of_decide_eq_true jt;rfl))
                ·have wG:=jt;try simp only[bs]at wG
                 refine br (fun mf=>?_) (fun mf=>?_)
                 ·have wH:=mf;try simp only[bs]at wH
                  exact ah rfl (Sub.str (by obtain rfl:=of_decide_eq_true mf;rfl))
                 ·have wH:=mf;try simp only[bs]at wH
                  refine br (fun oI=>?_) (fun oI=>?_)
                  ·have wI:=oI;try simp only[bs]at wI
                   exact ah rfl (Sub.str (by obtain rfl:=of_decide_eq_true oI;rfl))
                  ·have wI:=oI;try simp only[bs]at wI
                   exact ah rfl (Sub.str (by simp at*;simp[w8,dC, *]))
theorem UD(f:Fact)(n:Int)(h0:0≤n)(hn:n<13):Fc Tryz.prog 95 [.agg (aM f),.i n] (.b (cS f n)):=by
 refine Fc.mk' [4] func95 rfl ntmps95 rfl rfl rfl (fun t w=>results_tmp results95 t _ w) ?_;refine go [] ?_;refine br (fun h1=>?_) (fun h1=>?_)
 ·have bE:=h1;try simp only[bs]at bE
  exact ah rfl (Sub.bool (by(try simp only[List.length_map]);(obtain rfl:=of_decide_eq_true h1;rfl)))
 ·have bE:=h1;try simp only[bs]at bE
  refine br (fun h2=>?_) (fun h2=>?_)
  ·have c7:=h2;try simp only[bs]at c7
   exact ah rfl (Sub.bool (by(try simp only[List.length_map]);(obtain rfl:=of_decide_eq_true h2;rfl)))
  ·have c7:=h2;try simp only[bs]at c7
   refine br (fun h3=>?_) (fun h3=>?_)
   ·have fK:=h3;try simp only[bs]at fK
    exact ah rfl (Sub.bool (by(try simp only[List.length_map]);(obtain rfl:=of_decide_eq_true h3;rfl)))
   ·have fK:=h3;try simp only[bs]at fK
    refine br (fun h4=>?_) (fun h4=>?_)
    ·have gm:=h4;try simp only[bs]at gm
     exact ah rfl (Sub.bool (by(try simp only[List.length_map]);(obtain rfl:=of_decide_eq_true h4;rfl)))
    ·have gm:=h4;try simp only[bs]at gm
     refine br (fun h5=>?_) (fun h5=>?_)
     ·have oc:=h5;try simp only[bs]at oc
      exact ah rfl (Sub.bool (by(try simp only[List.length_map]);(obtain rfl:=of_decide_eq_true h5;exact GX _)))
     ·have oc:=h5;try simp only[bs]at oc
      refine br (fun h6=>?_) (fun h6=>?_)
      ·have sQ:=h6;try simp only[bs]at sQ
       exact ah rfl (Sub.bool (by(try simp only[List.length_map]);(obtain rfl:=of_decide_eq_true h6;exact GX _)))
      ·have sQ:=h6;try simp only[bs]at sQ
       refine br (fun h7=>?_) (fun h7=>?_)
       ·have sR:=h7;try simp only[bs]at sR
        exact ah rfl (Sub.bool (by(try simp only[List.length_map]);(obtain rfl:=of_decide_eq_true h7;exact GX _)))
       ·have sR:=h7;try simp only[bs]at sR
        refine br (fun h8=>?_) (fun h8=>?_)
        ·have sS:=h8;try simp only[bs]at sS
         refine oP (wM (xs:=[f.du.num,f.du.den]) (ys:=[[],[]]) underlying35 (by kernel_rfl) (by kernel_rfl) (.cons zK underlying33 isAgg33 rfl (.cons zK underlying33 isAgg33 rfl (.nil _))) rfl rfl rfl rfl rfl rfl) ?_;exact ah rfl (Sub.bool (by(try simp only[List.length_map]);(obtain rfl:=of_decide_eq_true h8;exact C6 _ dH)))
        ·have sS:=h8;try simp only[bs]at sS
         refine br (fun h9=>?_) (fun h9=>?_)
         ·have sT:=h9;try simp only[bs]at sT
          refine oP (wM (xs:=[f.ratio.num,f.ratio.den]) (ys:=[[],[]]) underlying35 (by kernel_rfl) (by kernel_rfl) (.cons zK underlying33 isAgg33 rfl (.cons zK underlying33 isAgg33 rfl (.nil _))) rfl rfl rfl rfl rfl rfl) ?_;exact ah rfl (Sub.bool (by(try simp only[List.length_map]);(obtain rfl:=of_decide_eq_true h9;exact C6 _ dH)))
         ·have sT:=h9;try simp only[bs]at sT
          refine br (fun cK=>?_) (fun cK=>?_)
          ·have sN:=cK;try simp only[bs]at sN
           refine oP (wM (xs:=[f.share.num,f.share.den]) (ys:=[[],[]]) underlying35 (by kernel_rfl) (by kernel_rfl) (.cons zK underlying33 isAgg33 rfl (.cons zK underlying33 isAgg33 rfl (.nil _))) rfl rfl rfl rfl rfl rfl) ?_;exact ah rfl (Sub.bool (by(try simp only[List.length_map]);(obtain rfl:=of_decide_eq_true cK;exact C6 _ dH)))
          ·have sN:=cK;try simp only[bs]at sN
           refine br (fun cM=>?_) (fun cM=>?_)
           ·have sO:=cM;try simp only[bs]at sO
            exact ah rfl (Sub.bool (by(try simp only[List.length_map]);(obtain rfl:=of_decide_eq_true cM;rfl)))
           ·have sO:=cM;try simp only[bs]at sO
            refine br (fun dN=>?_) (fun dN=>?_)
            ·have sP:=dN;try simp only[bs]at sP
             exact ah rfl (Sub.bool (by(try simp only[List.length_map]);(obtain rfl:=of_decide_eq_true dN;rfl)))
            ·have sP:=dN;try simp only[bs]at sP
             exact ah rfl (Sub.bool (by(try simp only[List.length_map]);(have YP:n=12:=zO;subst YP;rfl)))
@[reducible] def pU(s:aa):Bool:=s.all fun c=>decide (c≠47)
theorem Mb:∀{a b c d:aa},a++47::b=c++47::d→(∀x∈a,x≠47)→(∀x∈c,x≠47)→a=c∧b=d
 |[],b,[],d,h,_,_=>by simpa using h
 |[],b,y::c,d,h,_,h2=>by simp at h;exact absurd h.1.symm (h2 y zS)
 |x::a,b,[],d,h,h1,_=>by simp at h;exact absurd h.1 (h1 x zS)
 |x::a,b,y::c,d,h,h1,h2=>by
  simp only[List.cons_append,List.cons.injEq]at h;obtain⟨e1,e2⟩:=Mb h.2 (fun z hz=>h1 z (by simp[hz])) (fun z hz=>h2 z (by simp[hz]));exact⟨by rw[h.1,e1],e2⟩
theorem Ga{s pre rest:aa}(h:s=pre++47::rest)(hp:pU pre=true):fk s 47=(pre,rest,true):=by
 have r2:∀x∈pre,x≠47:=fun x hx=>of_decide_eq_true (List.all_eq_true.1 hp x hx);rcases DM 47 s with⟨h0,_,e,ha⟩|⟨_,ha⟩
 ·obtain⟨e1,e2⟩:=Mb (h.symm.trans e) r2 ha;unfold fk;rw[if_pos h0,←e1,←e2]
 ·exact absurd rfl (ha 47 (by rw[h];simp))
theorem XA{s:aa}(hp:pU s=true):fk s 47=(s,[],false):=by
 have r2:∀x∈s,x≠47:=fun x hx=>of_decide_eq_true (List.all_eq_true.1 hp x hx);rcases DM 47 s with⟨h0,_,e,ha⟩|⟨h0,ha⟩
 ·exact absurd rfl (r2 47 (by rw[e];simp))
 ·unfold fk;rw[if_neg zO]
theorem agj{s:aa}{x:UInt8}(h:pU s=true)(hx:decide ((x.toNat:Int)=47)=false):pU (s++[x])=true:=by
 have:x≠47:=by rintro rfl;exact absurd hx zD
 rw[pU,List.all_append,show(s.all fun c=>decide (c≠47))=true from h];simpa using this
theorem acI{s:aa}(h:0<s.length):s[(0:Int).toNat]?=some (s.headD 0):=by
 cases s with
 |nil=>simp at h
 |cons c r=>rfl
theorem afi{s:aa}(hp:pU s=true):pR s=false:=by unfold pR;rw[XA hp];rfl
theorem aff{s pre rest:aa}(h:s=pre++47::rest)(hp:pU pre=true)(hn:isName pre=false):pR s=false:=by unfold pR;rw[Ga h hp,hn];rfl
theorem afg{s pre rest:aa}(h:s=pre++47::rest)(hp:pU pre=true)(hd:rest.all bN=false):pR s=false:=by unfold pR ym;rw[Ga h hp];simp only;rw[hd];simp
theorem afh{s pre rest:aa}(h:s=pre++47::rest)(hp:pU pre=true)(hn:isName pre=true)(hd:rest.all bN=true):pR s=(decide (1≤(rest.length:Int))&&decide ((rest.length:Int)≤4)&&decide (((rest.headD 0).toNat:Int)≠48)):=by
 unfold pR ym;rw[Ga h hp];simp only;rw[hd,hn,Bool.eq_iff_iff];simp only[Bool.true_and,Bool.and_eq_true,decide_eq_true_eq];omega
structure afa(s:aa)where
 pre:List UInt8
 rest:List UInt8
 hx:s=pre++rest
 hp:pU pre=true
structure afb(s:aa)(pre rest:aa)(hx:s=pre++47::rest)(hp:pU pre=true)(hn:isName pre=true)where
 aw:List UInt8
 aI:List UInt8
 bl:rest=aw++aI
 hd:aw.all bN=true
theorem ae'(s:aa):Fc Tryz.prog 200 [.str s] (.b (pR s)):=by
 refine Fc.mk' [2] func200 rfl ntmps200 rfl rfl rfl (fun t w=>results_tmp results200 t _ w) ?_;refine J.l7 0 rfl (fun hb=>?_);simp only[aG]at hb;refine go [] ?_;refine J.loop (ι:=afa s) (fun sx=>[(0,.str s),(3,.i (-1)),(4,.i sx.pre.length)]) (fun sx=>[]) (fun sx=>sx.rest.length) ⟨[],s,rfl,rfl⟩ ?_ ?_
 ·exact Le.mk rfl (.s rfl rfl (.s rfl rfl (.s rfl rfl .nil))) .nil
 ·rintro⟨pre,rest,hx,hp⟩;show J _ _ _ _ [(0,.str s),(3,.i (-1)),(4,.i pre.length)] [];have hl:=congrArg List.length hx;simp only[List.length_append]at hl;rcases rest with _|⟨x,rest⟩
  ·skip;refine go [] ?_;refine aR (by simp at hl⊢;omega) ?_;refine go [] ?_;refine gP (d:=.str []) (fun hg=>absurd (show lW false (decide ((-1:Int)<0))=true from hg) zD) ?_;refine gP (d:=.b false) (fun hg=>absurd (show lW false (decide ((-1:Int)<0))=true from hg) zD) ?_;refine a_ rfl ?_;exact ah rfl (Sub.bool (afi (by obtain rfl:s=pre:=(by simpa using hx);exact hp)).symm)
  ·simp only[List.length_cons]at hl;refine go [] ?_;refine a_ zQ ?_;refine DR zO (mY hx rfl) ?_;refine br (fun h1=>?_) (fun h1=>?_)
   ·refine go [] ?_;obtain rfl:x=47:=UInt8.toNat_inj.1 (by simp only[decide_eq_true_eq]at h1;have h47:x.toNat=47:=zO;rw[h47];rfl);refine gP (fun hg=>rm underlying9 rfl (h:=pre.length) (r:=pre) (.inl ⟨rfl,rfl⟩) (.inr ⟨_,_,rfl,rfl⟩) zO zO (by rw[hx];simp)) ?_;refine gP (fun hg=>ai call94 rfl (Ba _)) ?_;refine br (fun h2=>?_) (fun h2=>?_)
    ·have c7:=h2;try simp only[bs]at c7
     exact ah rfl (Sub.bool (by exact(aff hx hp (by simpa using c7.resolve_left zO)).symm))
    ·have c7:=h2;try simp only[bs]at c7
     have hn:isName pre=true:=c7.2;refine sd (az zO) ?_;refine oP (rm underlying9 rfl (l:=pre.length+1) (r:=rest) (.inr ⟨_,_,rfl,ur rfl zS⟩) (.inl ⟨rfl,rfl⟩) (by simp at*;omega) zO (by rw[hx];simp;exact List.take_of_length_le zO)) ?_;refine J.loop (ι:=afb s pre rest hx hp hn) (fun sx=>[(5,.str rest),(6,.i sx.aw.length)]) (fun sx=>[]) (fun sx=>sx.aI.length) ⟨[],rest,rfl,rfl⟩ ?_ ?_
     ·exact Le.mk rfl (.s rfl rfl (.s rfl rfl .nil)) .nil
     ·rintro⟨aw,aI,bl,hd⟩;show J _ _ _ _ [(5,.str rest),(6,.i aw.length)] [];have bL:=congrArg List.length bl;simp only[List.length_append]at bL;rcases aI with _|⟨x2,aI⟩
      ·skip;refine go [] ?_;refine aR (by simp at bL⊢;omega) ?_;refine go [] ?_;refine DS (fun hg=>And.intro zD (acI (by simp[lW]at hg;omega))) ?_;exact ah rfl (Sub.bool (by(rw[afh hx hp hn (by obtain rfl:rest=aw:=(by simpa using bl);exact hd)];done)))
      ·simp only[List.length_cons]at bL;refine go [] ?_;refine a_ zQ ?_;refine DR zO (mY bl rfl) ?_;refine DS (fun hg=>And.intro zO (mY bl rfl)) ?_;refine br (fun h3=>?_) (fun h3=>?_)
       ·exact ah rfl (Sub.bool (by exact(afg hx hp (by grind[bN])).symm))
       ·refine sd (az zO) ?_;exact nx ⟨aw++[x2],aI,by simp[bl],by grind[bN]⟩ zS (Le.mk rfl (.s rfl rfl (.cons rfl (Sub.int zS) rfl .nil)) .nil)
   ·refine sd (az zO) ?_;exact nx ⟨pre++[x],rest,by simp[hx],agj hp zA⟩ zS (Le.mk rfl (.s rfl rfl (.s rfl rfl (.cons rfl (Sub.int zS) rfl .nil))) .nil)
theorem afe(s:aa):Fc Tryz.prog 200 [.str s] (.b (pN s)):=by
 have:=ae' s;rwa[afd]at this
theorem X5{s:aa}(h:(val s).natAbs<100000000000000000):(digits s).1.length≤17:=by
 rw[zE];refine yB 17 _ (Nat.lt_of_le_of_lt (Nat.le_of_eq ?_) h);unfold val;cases(digits s).2<;>simp
theorem ajR{a b:aa}{n:Nat}(ha:(val a).natAbs≤n*10000000000000)(hb:b.length≤13):(val (pr a b)).natAbs≤(n+1)*10000000000000:=by
 have h1:=zf b;have h2:10^b.length≤10^13:=Nat.pow_le_pow_right zO hb;unfold pr;rw[f_];omega
theorem afJ{l pre aw aI q:List cX}{y:cX}(h:l=pre++q)(h2:pre=aw++y::aI):l=aw++y::(aI++q):=by rw[h,h2];simp
theorem ag1{f:Fact}(h:decide ((f.opts.length:Int)=0)=false)(h2:decide (8<(f.opts.length:Int))=false):pW f=pa f.eY f.opts:=by rw[pW,if_neg (by rw[h];simp),if_neg (by rw[h2];simp)]
theorem ag2{f:Fact}(h:decide ((f.opts.length:Int)=0)=true):11=pW f:=by rw[pW,if_pos h]
theorem ag3{f:Fact}(h:decide ((f.opts.length:Int)=0)=false)(h2:decide (8<(f.opts.length:Int))=true):4=pW f:=by rw[pW,if_neg (by rw[h];simp),if_pos h2]
theorem agR{e:Int}{i:aa}{o:cR}{r:List cR}(hp:e=pa i (o::r))(h:(decide (o.other≠[])&&!isName o.other)=true):23=e:=by rw[hp,pa,yO,if_pos h]
theorem agS{e:Int}{i:aa}{o:cR}{r:List cR}(hp:e=pa i (o::r))(h:(decide (o.other≠[])&&!isName o.other)=false)(h2:(decide (o.other≠[])&&decide (o.other=i))=true):18=e:=by rw[hp,pa,yO,if_neg (by rw[h];simp),if_pos h2]
theorem Bm{e:Int}{i:aa}{o:cR}{r:List cR}(hp:e=pa i (o::r))(h:(decide (o.other≠[])&&!isName o.other)=false)(h2:(decide (o.other≠[])&&decide (o.other=i))=false):e=kU [o.ratio,o.du,o.value] (if Eo o=true then 2 else pa i r):=by
 rw[hp,pa,yO,if_neg (by rw[h];simp),if_neg (by rw[h2];simp)]
structure ahs(f:Fact)where
 pre:List cX
 rest:List cX
 sum:aa
 hx:f.fe=pre++rest
 hp:rj f=km f.c_ pre sum rest
 Po:(val sum).natAbs≤pre.length*10000000000000
 Ad:f.fe.length≤64
structure aht(f:Fact)(pre:List cX)(x:cX)(sum:aa)where
 aw:List cX
 aI:List cX
 bl:pre=aw++aI
 hq:aw.any (fun y=>decide (y.fc=x.fc))=false
theorem ahr(f:Fact)(hf:qt f):Fc Tryz.prog 145 [.agg (aM f)] (.i (rj f)):=by
 refine Fc.mk' [2] func145 rfl ntmps145 rfl rfl rfl (fun t w=>results_tmp results145 t _ w) ?_;refine J.rG 0 18 rfl rfl (fun hb=>?_);simp only[List.length_map,aG]at hb;refine go [] ?_;refine br (fun h1=>?_) (fun h1=>?_)
 ·exact ah rfl (Sub.int (by exact Ss (by simpa using h1)))
 ·refine J.loop (ι:=ahs f) (fun sx=>[(1,.box 0 0),(3,.str sx.sum),(4,.i sx.pre.length)]) (fun sx=>[(0,.cells (aM f))]) (fun sx=>sx.rest.length) ⟨[],_,[],rfl,Sj (by simpa using h1),by decide,by have h9:=h1;simp at h9;omega⟩ ?_ ?_
  ·exact Le.mk rfl (.s rfl rfl (.s rfl rfl (.s rfl rfl .nil))) (.cons rfl rfl .nil)
  ·rintro⟨pre,rest,sum,hx,hp,Po,Ad⟩;show J _ _ _ _ [(1,.box 0 0),(3,.str sum),(4,.i pre.length)] [(0,.cells (aM f))];have hl:=congrArg List.length hx;simp only[List.length_append]at hl;rcases rest with _|⟨x,rest⟩
   ·skip;refine go [] ?_;refine aR (by simp at hl⊢;omega) ?_;refine go [] ?_;refine oP (ai call195 rfl (xl _ _)) ?_;refine br (fun h2=>?_) (fun h2=>?_)
    ·exact ah rfl (Sub.int (by exact Sp hp (by rw[←sF];assumption)))
    ·exact ah rfl (Sub.int (by exact Sr hp (by rw[←sF];assumption)))
   ·simp only[List.length_cons]at hl;have x8:=hf.fe x (by rw[hx];simp);refine go [] ?_;refine a_ zQ ?_;refine ix zO (bn iQ hx rfl) ?_;refine oP (ai call200 rfl (afe _)) ?_;refine br (fun h3=>?_) (fun h3=>?_)
    ·exact ah rfl (Sub.int (by exact Sk hp zA))
    ·refine J.loop (ι:=aht f pre x sum) (fun sx=>[(1,.box 0 0),(3,.str sum),(4,.i pre.length),(5,.i sx.aw.length)]) (fun sx=>[(0,.cells (aM f))]) (fun sx=>sx.aI.length) ⟨[],pre,rfl,rfl⟩ ?_ ?_
     ·exact Le.mk rfl (.s rfl rfl (.s rfl rfl (.s rfl rfl (.s rfl rfl .nil)))) (.cons rfl rfl .nil)
     ·rintro⟨aw,aI,bl,hq⟩;show J _ _ _ _ [(1,.box 0 0),(3,.str sum),(4,.i pre.length),(5,.i aw.length)] [(0,.cells (aM f))];have bL:=congrArg List.length bl;simp only[List.length_append]at bL;rcases aI with _|⟨y,aI⟩
      ·have Ph:pre.any (fun y=>decide (y.fc=x.fc))=false:=by rw[bl,List.append_nil];exact hq
       refine go [] ?_;refine aR (by simp at bL⊢;omega) ?_;refine go [] ?_;refine ix zO (bn iQ hx rfl) ?_;refine oP (ai call140 rfl (Uz x.c_)) ?_;refine br (fun h4=>?_) (fun h4=>?_)
       ·exact ah rfl (Sub.int (by exact Sm hp zA Ph zA))
       ·refine ix zO (bn iQ hx rfl) ?_;refine oP (ai call201 rfl (U' sum x.c_ (X5 zO) (by have:=jO x.c_;have:=x8.2;omega))) ?_;refine go [] ?_;refine sd (az zO) ?_;exact nx ⟨pre++[x],rest,pr sum x.c_,by simp[hx],Sn hp h3 Ph zA,by have:=ajR (n:=pre.length) Po x8.2;simpa using this,Ad⟩ zS (Le.mk rfl (.s rfl rfl (.s rfl rfl (.cons rfl (Sub.int zS) rfl .nil))) (.cons rfl rfl .nil))
      ·simp only[List.length_cons]at bL;refine go [] ?_;refine a_ zQ ?_;refine ix zO (bn iQ (afJ hx bl) rfl) ?_;refine ix zO (bn iQ hx rfl) ?_;refine ord ?_;refine br (fun h5=>?_) (fun h5=>?_)
       ·exact ah rfl (Sub.int (by exact Sl hp zA (by rw[bl,List.any_append,List.any_cons];simp at*;grind)))
       ·refine sd (az zO) ?_;exact nx ⟨aw++[y],aI,by simp[bl],by rw[List.any_append,hq];simpa using h5⟩ zS (Le.mk rfl (.s rfl rfl (.s rfl rfl (.s rfl rfl (.cons rfl (Sub.int zS) rfl .nil)))) (.cons rfl rfl .nil))
structure agZ(f:Fact)where
 pre:List cR
 rest:List cR
 hx:f.opts=pre++rest
 hp:pW f=pa f.eY rest
theorem agY(f:Fact)(hf:qt f):Fc Tryz.prog 146 [.agg (aM f)] (.i (pW f)):=by
 refine Fc.mk' [2] func146 rfl ntmps146 rfl rfl rfl (fun t w=>results_tmp results146 t _ w) ?_;refine J.rG 0 19 rfl rfl (fun hb=>?_);simp only[List.length_map,aG]at hb;refine go [] ?_;refine br (fun h1=>?_) (fun h1=>?_)
 ·exact ah rfl (Sub.int (by exact ag2 (by simpa using h1)))
 ·refine br (fun h2=>?_) (fun h2=>?_)
  ·exact ah rfl (Sub.int (by exact ag3 (by simpa using h1) (by simpa using h2)))
  ·refine J.loop (ι:=agZ f) (fun sx=>[(1,.box 0 0),(3,.i sx.pre.length)]) (fun sx=>[(0,.cells (aM f))]) (fun sx=>sx.rest.length) ⟨[],_,rfl,ag1 (by simpa using h1) (by simpa using h2)⟩ ?_ ?_
   ·exact Le.mk rfl (.s rfl rfl (.s rfl rfl .nil)) (.cons rfl rfl .nil)
   ·rintro⟨pre,rest,hx,hp⟩;show J _ _ _ _ [(1,.box 0 0),(3,.i pre.length)] [(0,.cells (aM f))];have hl:=congrArg List.length hx;simp only[List.length_append]at hl;rcases rest with _|⟨x,rest⟩
    ·skip;refine go [] ?_;refine aR (by simp at hl⊢;omega) ?_;refine go [] ?_;exact ah rfl (Sub.int (by rw[hp];rfl))
    ·simp only[List.length_cons]at hl;have jy:=hf.opts x (by rw[hx];simp);refine go [] ?_;refine a_ zQ ?_;refine ix zO (bn lA hx rfl) ?_;refine gP (fun hg=>ai call94 rfl (Ba _)) ?_;refine br (fun h3=>?_) (fun h3=>?_)
     ·exact ah rfl (Sub.int (by exact agR hp h3))
     ·refine br (fun h4=>?_) (fun h4=>?_)
      ·exact ah rfl (Sub.int (by exact agS hp h3 h4))
      ·refine oP (ai call142 rfl (yH x.ratio false jy.1)) ?_;refine br (fun h5=>?_) (fun h5=>?_)
       ·exact ah rfl (Sub.int (by exact D1 (Bm hp h3 h4) h5))
       ·refine oP (ai call142 rfl (yH x.du false jy.2.1)) ?_;refine br (fun h6=>?_) (fun h6=>?_)
        ·exact ah rfl (Sub.int (by exact D1 (qT (Bm hp h3 h4) h5) h6))
        ·refine oP (ai call142 rfl (yH x.value false jy.2.2)) ?_;refine br (fun h7=>?_) (fun h7=>?_)
         ·exact ah rfl (Sub.int (by exact D1 (qT (qT (Bm hp h3 h4) h5) h6) h7))
         ·refine oP (ai call191 rfl (EU x.ratio jy.1)) ?_;refine gP (fun hg=>ai call191 rfl (EU x.value jy.2.2)) ?_;refine br (fun h8=>?_) (fun h8=>?_)
          ·exact ah rfl (Sub.int (by exact RZ (D0 (qT (qT (qT (Bm hp h3 h4) h5) h6) h7)) h8))
          ·refine sd (az zO) ?_;exact nx ⟨pre++[x],rest,by simp[hx],RY (D0 (qT (qT (qT (Bm hp h3 h4) h5) h6) h7)) h8⟩ zS (Le.mk rfl (.s rfl rfl (.cons rfl (Sub.int zS) rfl .nil)) (.cons rfl rfl .nil))
@[reducible] def ve(d:Int):Bool:=decide (d< -25567)||decide (84005<d)
theorem XK{d:Int}(h:decide ((if ve d=true then(13:Int)else 0)≠0)=true):ve d=true:=by
 cases k:ve d with
 |true=>rfl
 |false=>rw[k]at h;exact absurd h zD
theorem Mf{d:Int}(h:decide ((if ve d=true then(13:Int)else 0)≠0)=false):ve d=false:=by
 cases k:ve d with
 |true=>rw[k]at h;exact absurd h zD
 |false=>rfl
theorem akd:j2 (cI 1 1):=by unfold j2;decide+kernel
theorem aas{e:Int}{f:Fact}{n:Int}{l:List Int}(hp:e=kG f (n::l))(h:kK f.kind n=true)(h2:decide (qv f n≠0)=true):qv f n=e:=by rw[hp,kG,if_pos h,if_pos h2]
theorem aat{e:Int}{f:Fact}{n:Int}{l:List Int}(hp:e=kG f (n::l))(h:kK f.kind n=true)(h2:decide (qv f n≠0)=false):e=kG f l:=by rw[hp,kG,if_pos h,if_neg (by rw[h2];simp)]
theorem aau{e:Int}{f:Fact}{n:Int}{l:List Int}(hp:e=kG f (n::l))(h:kK f.kind n=false)(h2:(!cS f n)=true):1=e:=by rw[hp,kG,if_neg (by rw[h];simp),if_pos h2]
theorem aav{e:Int}{f:Fact}{n:Int}{l:List Int}(hp:e=kG f (n::l))(h:kK f.kind n=false)(h2:(!cS f n)=false):e=kG f l:=by rw[hp,kG,if_neg (by rw[h];simp),if_neg (by rw[h2];simp)]
theorem VT{f:Fact}(h1:(!isName f.key)=true):23=jo f:=by unfold jo;exact iT h1
theorem VU{f:Fact}(h1:(!isName f.key)=false)(h2:decide (f.ib<0)=true):2=jo f:=by unfold jo;exact iF h1 (iT h2)
theorem VV{f:Fact}(h1:(!isName f.key)=false)(h2:decide (f.ib<0)=false)(h3:f.cancelled=true)(h4:gf.any (fun n=>!cS f n)=true):1=jo f:=by unfold jo;exact iF h1 (iF h2 (fI h3 (iT h4)))
theorem VW{f:Fact}(h1:(!isName f.key)=false)(h2:decide (f.ib<0)=false)(h3:f.cancelled=true)(h4:gf.any (fun n=>!cS f n)=false)(h5:(decide (f.day≠0)||decide (f.kind≠0))=true):1=jo f:=by unfold jo;exact iF h1 (iF h2 (fI h3 (iF h4 (iT h5))))
theorem VX{f:Fact}(h1:(!isName f.key)=false)(h2:decide (f.ib<0)=false)(h3:f.cancelled=true)(h4:gf.any (fun n=>!cS f n)=false)(h5:(decide (f.day≠0)||decide (f.kind≠0))=false):0=jo f:=by unfold jo;exact iF h1 (iF h2 (fI h3 (iF h4 (iF h5 rfl))))
theorem VY{f:Fact}(h1:(!isName f.key)=false)(h2:decide (f.ib<0)=false)(h3:f.cancelled=false)(h4:(decide (f.day< -25567)||decide (84005<f.day))=true):13=jo f:=by unfold jo;exact iF h1 (iF h2 (iF h3 (iT h4)))
theorem VZ{f:Fact}(h1:(!isName f.key)=false)(h2:decide (f.ib<0)=false)(h3:f.cancelled=false)(h4:(decide (f.day< -25567)||decide (84005<f.day))=false)(h5:decide (w8 f.kind=[])=true):7=jo f:=by unfold jo;exact iF h1 (iF h2 (iF h3 (iF h4 (iT h5))))
theorem V0{f:Fact}(h1:(!isName f.key)=false)(h2:decide (f.ib<0)=false)(h3:f.cancelled=false)(h4:(decide (f.day< -25567)||decide (84005<f.day))=false)(h5:decide (w8 f.kind=[])=false):jo f=kG f gf:=by unfold jo;exact(iF h1 (iF h2 (iF h3 (iF h4 (iF h5 rfl))))).symm
theorem XI(d:Int):Fc Tryz.prog 96 [.i d] (.i (if ve d=true then 13 else 0)):=by
 refine Fc.mk' [2] func96 rfl ntmps96 rfl rfl rfl (fun t w=>results_tmp results96 t _ w) ?_;refine go [] ?_;refine br (fun h1=>?_) (fun h1=>?_)
 ·exact ah rfl (Sub.int (by exact iT h1))
 ·exact ah rfl (Sub.int (by exact iF h1 rfl))
theorem aaI(f:Fact)(n:Int)(hf:qt f)(h0:0≤n)(hn:n<13):Fc Tryz.prog 99 [.agg (aM f),.i n] (.i (qv f n)):=by
 refine Fc.mk' [4] func99 rfl ntmps99 rfl rfl rfl (fun t w=>results_tmp results99 t _ w) ?_;refine go [] ?_;refine br (fun h1=>?_) (fun h1=>?_)
 ·refine oP (ai call137 rfl (Ri _)) ?_;exact ah rfl (Sub.int (by obtain rfl:=of_decide_eq_true h1;rfl))
 ·refine br (fun h2=>?_) (fun h2=>?_)
  ·refine oP (ai call138 rfl (ag' f)) ?_;exact ah rfl (Sub.int (by obtain rfl:=of_decide_eq_true h2;rfl))
  ·refine br (fun h3=>?_) (fun h3=>?_)
   ·refine oP (ai call139 rfl (L4 _)) ?_;refine br (fun h4=>?_) (fun h4=>?_)
    ·exact ah rfl (Sub.int (by(obtain rfl:=of_decide_eq_true h3;(show _=if(!gA f.cur)=true then(12:Int)else 0;exact iT zA))))
    ·exact ah rfl (Sub.int (by(obtain rfl:=of_decide_eq_true h3;(show _=if(!gA f.cur)=true then(12:Int)else 0;exact iF zA rfl))))
   ·refine br (fun h5=>?_) (fun h5=>?_)
    ·refine oP (ai call137 rfl (Ri _)) ?_;exact ah rfl (Sub.int (by obtain rfl:=of_decide_eq_true h5;rfl))
    ·refine br (fun h6=>?_) (fun h6=>?_)
     ·refine oP (ai call140 rfl (Uz f.c_)) ?_;exact ah rfl (Sub.int (by obtain rfl:=of_decide_eq_true h6;rfl))
     ·refine br (fun h7=>?_) (fun h7=>?_)
      ·refine oP (ai call141 rfl (ae1 _ _)) ?_;refine oP (ai call140 rfl (KR f.mH (yT f.kind 5))) ?_;refine ord ?_;exact ah rfl (Sub.int (by obtain rfl:=of_decide_eq_true h7;rfl))
      ·refine br (fun h8=>?_) (fun h8=>?_)
       ·refine oP (ai call140 rfl (alY f.mP)) ?_;exact ah rfl (Sub.int (by obtain rfl:=of_decide_eq_true h8;rfl))
       ·refine br (fun h9=>?_) (fun h9=>?_)
        ·refine oP (ai call142 rfl (yH f.du _ hf.du)) ?_;exact ah rfl (Sub.int (by obtain rfl:=of_decide_eq_true h9;rfl))
        ·refine br (fun cK=>?_) (fun cK=>?_)
         ·refine oP (ai call142 rfl (yH f.ratio true hf.ratio)) ?_;exact ah rfl (Sub.int (by obtain rfl:=of_decide_eq_true cK;rfl))
         ·refine br (fun cM=>?_) (fun cM=>?_)
          ·refine oP (ai call142 rfl (yH f.share false hf.share)) ?_;refine br (fun dN=>?_) (fun dN=>?_)
           ·exact ah rfl (Sub.int (by(obtain rfl:=of_decide_eq_true cM;(show _=s4 f.share;unfold s4;exact iT zA))))
           ·refine oP (ai call144 rfl aih) ?_;refine oP (ai call143 rfl (L7 f.share (cI 1 1) hf.share akd)) ?_;refine ord ?_;refine br (fun fh=>?_) (fun fh=>?_)
            ·exact ah rfl (Sub.int (by(obtain rfl:=of_decide_eq_true cM;(show _=s4 f.share;unfold s4;exact iF zA (iT zA)))))
            ·exact ah rfl (Sub.int (by(obtain rfl:=of_decide_eq_true cM;(show _=s4 f.share;unfold s4;exact iF zA (iF zA rfl)))))
          ·refine br (fun me=>?_) (fun me=>?_)
           ·refine oP (ai call145 rfl (ahr f hf)) ?_;exact ah rfl (Sub.int (by obtain rfl:=of_decide_eq_true me;rfl))
           ·refine br (fun mV=>?_) (fun mV=>?_)
            ·refine oP (ai call146 rfl (agY f hf)) ?_;exact ah rfl (Sub.int (by obtain rfl:=of_decide_eq_true mV;rfl))
            ·refine br (fun jt=>?_) (fun jt=>?_)
             ·refine br (fun mf=>?_) (fun mf=>?_)
              ·exact ah rfl (Sub.int (by(obtain rfl:=of_decide_eq_true jt;(show _=if decide (f.choice<0)=true then(2:Int)else 0;exact iT zA))))
              ·exact ah rfl (Sub.int (by(obtain rfl:=of_decide_eq_true jt;(show _=if decide (f.choice<0)=true then(2:Int)else 0;exact iF zA rfl))))
             ·exact ah rfl (Sub.int (by exfalso;simp at*;omega))
structure Wz(f:Fact)where
 pre:List Int
 rest:List Int
 hx:gf=pre++rest
 ha:pre.any (fun n=>!cS f n)=false
structure WA(f:Fact)where
 pre:List Int
 rest:List Int
 hx:gf=pre++rest
 hp:jo f=kG f rest
theorem Wy(f:Fact)(hf:qt f):Fc Tryz.prog 53 [.agg (aM f)] (.i (jo f)):=by
 refine Fc.mk' [2] func53 rfl ntmps53 rfl rfl rfl (fun t w=>results_tmp results53 t _ w) ?_;refine go [] ?_;refine oP (ai call94 rfl (Ba _)) ?_;refine br (fun h1=>?_) (fun h1=>?_)
 ·exact ah rfl (Sub.int (by exact VT h1))
 ·refine br (fun h2=>?_) (fun h2=>?_)
  ·exact ah rfl (Sub.int (by exact VU h1 h2))
  ·refine br (fun h3=>?_) (fun h3=>?_)
   ·refine J.loop (ι:=Wz f) (fun sx=>[(1,.box 0 0),(3,.i sx.pre.length)]) (fun sx=>[(0,.cells (aM f))]) (fun sx=>sx.rest.length) ⟨[],_,rfl,rfl⟩ ?_ ?_
    ·exact Le.mk rfl (.s rfl rfl (.s rfl rfl .nil)) (.cons rfl rfl .nil)
    ·rintro⟨pre,rest,hx,ha⟩;show J _ _ _ _ [(1,.box 0 0),(3,.i pre.length)] [(0,.cells (aM f))];rcases rest with _|⟨x,rest⟩
     ·have hl:=congrArg List.length hx;simp only[List.length_append,List.length_cons,List.length_nil]at hl;refine go [] ?_;refine aR zQ ?_;refine go [] ?_;refine br (fun h4=>?_) (fun h4=>?_)
      ·exact ah rfl (Sub.int (by exact VW h1 h2 h3 (by rw[hx,List.append_nil];exact ha) zA))
      ·exact ah rfl (Sub.int (by exact VX h1 h2 h3 (by rw[hx,List.append_nil];exact ha) zA))
     ·obtain⟨e9,fh⟩:=C4 hx;subst e9;refine go [] ?_;refine a_ zQ ?_;refine oP (ai call95 rfl (UD f (pre.length:Int) zO zO)) ?_;refine br (fun h5=>?_) (fun h5=>?_)
      ·exact ah rfl (Sub.int (by exact VV h1 h2 h3 (by rw[hx,List.any_append,List.any_cons];simp at*;grind)))
      ·have oc:=h5;try simp only[bs]at oc
       refine sd (az zO) ?_;exact nx ⟨pre++[(pre.length:Int)],rest,by simp[hx],by rw[List.any_append,ha];simpa using zA⟩ zS (Le.mk rfl (.s rfl rfl (.cons rfl (Sub.int zS) rfl .nil)) (.cons rfl rfl .nil))
   ·refine oP (ai call96 rfl (XI _)) ?_;refine br (fun h6=>?_) (fun h6=>?_)
    ·exact ah rfl (Sub.int (by exact VY h1 h2 h3 (XK zA)))
    ·refine oP (ai call97 rfl (al2 _)) ?_;refine br (fun h7=>?_) (fun h7=>?_)
     ·exact ah rfl (Sub.int (by exact VZ h1 h2 h3 (Mf zA) zA))
     ·refine J.loop (ι:=WA f) (fun sx=>[(1,.box 0 0),(4,.i sx.pre.length)]) (fun sx=>[(0,.cells (aM f))]) (fun sx=>sx.rest.length) ⟨[],_,rfl,V0 h1 h2 h3 (Mf zA) zA⟩ ?_ ?_
      ·exact Le.mk rfl (.s rfl rfl (.s rfl rfl .nil)) (.cons rfl rfl .nil)
      ·rintro⟨pre,rest,hx,hp⟩;show J _ _ _ _ [(1,.box 0 0),(4,.i pre.length)] [(0,.cells (aM f))];rcases rest with _|⟨x,rest⟩
       ·have hl:=congrArg List.length hx;simp only[List.length_append,List.length_cons,List.length_nil]at hl;refine go [] ?_;refine aR zQ ?_;refine go [] ?_;exact ah rfl (Sub.int (by exact hp.symm))
       ·obtain⟨e9,fh⟩:=C4 hx;subst e9;refine go [] ?_;refine a_ zQ ?_;refine oP (ai call98 rfl (acu _ _)) ?_;refine br (fun h8=>?_) (fun h8=>?_)
        ·refine oP (ai call99 rfl (aaI f (pre.length:Int) hf zO zO)) ?_;refine br (fun h9=>?_) (fun h9=>?_)
         ·exact ah rfl (Sub.int (by exact aas hp zA zA))
         ·refine sd (az zO) ?_;exact nx ⟨pre++[(pre.length:Int)],rest,by simp[hx],by exact aat hp zA zA⟩ zS (Le.mk rfl (.s rfl rfl (.cons rfl (Sub.int zS) rfl .nil)) (.cons rfl rfl .nil))
        ·refine oP (ai call95 rfl (UD f (pre.length:Int) zO zO)) ?_;refine br (fun cK=>?_) (fun cK=>?_)
         ·exact ah rfl (Sub.int (by exact aau hp zA zA))
         ·refine sd (az zO) ?_;exact nx ⟨pre++[(pre.length:Int)],rest,by simp[hx],by exact aav hp zA zA⟩ zS (Le.mk rfl (.s rfl rfl (.cons rfl (Sub.int zS) rfl .nil)) (.cons rfl rfl .nil))
theorem Wu(f:Fact)(hf:qt f):Fc Tryz.prog 53 [.agg (aM f)] (.i (eP f)):=by
 have:=Wy f hf;rwa[Wx]at this
end Go.T
namespace Go.T
open Go
theorem AR:∀a b:aa,aa.lt a b=true↔a<b
 |[],[]=>by simp[aa.lt,Op.bytesLess]
 |[],_::_=>by simp[aa.lt,Op.bytesLess]
 |_::_,[]=>by simp[aa.lt,Op.bytesLess]
 |x::a,y::b=>by
  rw[Qt,List.cons_lt_cons_iff];have ih:=AR a b;simp only[Bool.or_eq_true,Bool.and_eq_true,decide_eq_true_eq,ih];rfl
theorem afm{a b c:aa}(h1:aa.lt a b=true)(h2:aa.lt b c=true):aa.lt a c=true:=by
 rw[AR]at*;exact List.lt_trans h1 h2
theorem IN(a:aa):aa.lt a a=false:=by
 cases h:aa.lt a a with
 |false=>rfl
 |true=>rw[AR]at h;exact absurd h (List.lt_irrefl a)
theorem afl{a b:aa}(h:aa.lt a b=true):a≠b:=by rintro rfl;rw[IN]at h;cases h
theorem aeX{a b:aa}(h:a≤b)(hn:a≠b):aa.lt a b=true:=by
 rw[AR];exact Decidable.byContradiction fun k=>hn (List.le_antisymm h (List.not_lt.1 k))
def fC(k:Int):Int:=match dC k with
 |some r=>r.c
 |none=>0
def jN(a b:Fact):Int:=
 if decide (a.day≠b.day)=true then(if decide (a.day<b.day)=true then -1 else 1)
 else if decide (fC a.kind≠fC b.kind)=true then(if decide (fC a.kind<fC b.kind)=true then -1 else 1)
 else if decide (a.key≠b.key)=true then(if aa.lt a.key b.key=true then -1 else 1)else 0
def oY(a b:Fact):Prop:=a.day<b.day∨(a.day=b.day∧(fC a.kind<fC b.kind∨(fC a.kind=fC b.kind∧aa.lt a.key b.key=true)))
theorem WG(a b:Fact):jN a b<0↔oY a b:=by
 unfold jN oY;by_cases h1:a.day=b.day
 ·rw[if_neg (by simpa using h1)];by_cases h2:fC a.kind=fC b.kind
  ·rw[if_neg (by simpa using h2)];by_cases h3:a.key=b.key
   ·rw[if_neg (by simpa using h3),h3,IN];simp[h1,h2]
   ·rw[if_pos (by simpa using h3)];by_cases h4:aa.lt a.key b.key=true
    ·rw[if_pos h4];simp[h1,h2,h4]
    ·rw[if_neg h4];simp[h1,h2,h4]
  ·rw[if_pos (by simpa using h2)];by_cases h4:fC a.kind<fC b.kind
   ·rw[if_pos (by simpa using h4)];simp[h1,h4]
   ·rw[if_neg (by simpa using h4)];simp[h1,h2,h4]
 ·rw[if_pos (by simpa using h1)];by_cases h4:a.day<b.day
  ·rw[if_pos (by simpa using h4)];simp[h4]
  ·rw[if_neg (by simpa using h4)];simp[h1,h4]
theorem afj{a b c:Fact}(h:oY a b)(k:oY b c):oY a c:=by
 unfold oY at*;rcases h with h|⟨h,h2⟩
 ·rcases k with k|⟨k,_⟩
  ·left;omega
  ·left;omega
 ·rcases k with k|⟨k,k2⟩
  ·left;omega
  ·refine .inr ⟨by omega,?_⟩;rcases h2 with h2|⟨h2,h3⟩
   ·rcases k2 with k2|⟨k2,_⟩
    ·left;omega
    ·left;omega
   ·rcases k2 with k2|⟨k2,k3⟩
    ·left;omega
    ·exact .inr ⟨by omega,afm h3 k3⟩
def se(l:List Fact):Fact:=l.getLastD default
def viewAt(pre:List Fact)(f:Fact):Int:=
 if decide (eP f≠0)=true then eP f else if f.cancelled=true then 19 else if decide (f.ib≠0)=true then 1 else if pre.any (fun g=>decide (g.key=f.key))=true then 5
 else if(decide (0<(pre.length:Int))&&decide (0≤jN (se pre) f))=true then 8 else 0
def pn(pre:List Fact):List Fact→Int
 |[]=>0
 |f::r=>if decide (viewAt pre f≠0)=true then viewAt pre f else pn (pre++[f]) r
def l9(l:List Fact):Int:=if decide (1000<(l.length:Int))=true then 4 else pn [] l
theorem rv{e:Int}{pre rest:List Fact}{x:Fact}{n:Int}(h:e=pn pre (x::rest))(he:viewAt pre x=n)(hn:n≠0):n=e:=by rw[h,pn,he,if_pos (decide_eq_true hn)]
theorem Up{e:Int}{pre rest:List Fact}{x:Fact}(h:e=pn pre (x::rest))(he:viewAt pre x=0):e=pn (pre++[x]) rest:=by rw[h,pn,he];rfl
theorem Uj{pre:List Fact}{f:Fact}(h:decide (eP f≠0)=true):viewAt pre f=eP f:=by rw[viewAt,if_pos h]
theorem Uk{pre:List Fact}{f:Fact}(h:decide (eP f≠0)=false)(h2:f.cancelled=true):viewAt pre f=19:=by rw[viewAt,if_neg (by rw[h];simp),if_pos h2]
theorem Ul{pre:List Fact}{f:Fact}(h:decide (eP f≠0)=false)(h2:f.cancelled=false)(h3:decide (f.ib≠0)=true):viewAt pre f=1:=by rw[viewAt,if_neg (by rw[h];simp),if_neg (by rw[h2];simp),if_pos h3]
theorem Um{pre:List Fact}{f:Fact}(h:decide (eP f≠0)=false)(h2:f.cancelled=false)(h3:decide (f.ib≠0)=false)(h4:pre.any (fun g=>decide (g.key=f.key))=true):viewAt pre f=5:=by
 rw[viewAt,if_neg (by rw[h];simp),if_neg (by rw[h2];simp),if_neg (by rw[h3];simp),if_pos h4]
theorem Un{pre:List Fact}{f:Fact}(h:decide (eP f≠0)=false)(h2:f.cancelled=false)(h3:decide (f.ib≠0)=false)(h4:pre.any (fun g=>decide (g.key=f.key))=false)
  (h5:(decide (0<(pre.length:Int))&&decide (0≤jN (se pre) f))=true):viewAt pre f=8:=by
 rw[viewAt,if_neg (by rw[h];simp),if_neg (by rw[h2];simp),if_neg (by rw[h3];simp),if_neg (by rw[h4];simp),if_pos h5]
theorem KM{pre:List Fact}{f:Fact}(h:decide (eP f≠0)=false)(h2:f.cancelled=false)(h3:decide (f.ib≠0)=false)(h4:pre.any (fun g=>decide (g.key=f.key))=false)
  (h5:(decide (0<(pre.length:Int))&&decide (0≤jN (se pre) f))=false):viewAt pre f=0:=by
 rw[viewAt,if_neg (by rw[h];simp),if_neg (by rw[h2];simp),if_neg (by rw[h3];simp),if_neg (by rw[h4];simp),if_neg (by rw[h5];simp)]
structure ta(l:List Fact):Prop where
 len:l.length≤1000
 each:∀f∈l,eP f=0∧f.cancelled=false∧f.ib=0
 keys:l.Pairwise fun a b=>a.key≠b.key
 ord:l.Pairwise oY
theorem aek(p:List Fact)(z:Fact):se (p++[z])=z:=by simp[se,List.getLastD_eq_getLast?]
theorem Uo:∀(r pre:List Fact),pre.Pairwise (fun a b=>a.key≠b.key)→pre.Pairwise oY→
  (pn pre r=0↔(∀f∈r,eP f=0∧f.cancelled=false∧f.ib=0)∧(pre++r).Pairwise (fun a b=>a.key≠b.key)∧(pre++r).Pairwise oY)
 |[],pre,h1,h2=>by simp[pn,h1,h2]
 |f::r,pre,h1,h2=>by
  have e:pre++f::r=(pre++[f])++r:=by simp
  have Dr:viewAt pre f=0↔(eP f=0∧f.cancelled=false∧f.ib=0)∧(pre++[f]).Pairwise (fun a b=>a.key≠b.key)∧(pre++[f]).Pairwise oY:=by
   have k1:(pre++[f]).Pairwise (fun a b=>a.key≠b.key)↔pre.any (fun g=>decide (g.key=f.key))=false:=by
    rw[List.pairwise_append];simp[h1]
   have k2:(pre++[f]).Pairwise oY↔(decide (0<(pre.length:Int))&&decide (0≤jN (se pre) f))=false:=by
    rw[List.pairwise_append];simp only[h2,List.pairwise_singleton,List.mem_singleton,true_and,forall_eq];rcases List.eq_nil_or_concat pre with rfl|⟨p,z,rfl⟩
    ·simp
    ·simp only[List.concat_eq_append]at*;rw[aek];have e2:(decide (0<((p++[z]).length:Int))&&decide (0≤jN z f))=false↔oY z f:=by
      rw[←WG];simp
     rw[e2];constructor
     ·intro h;exact h z zS
     ·intro h a ha;rcases List.mem_append.1 ha with ha|ha
      ·exact afj ((List.pairwise_append.1 h2).2.2 a ha z zS) h
      ·simp at ha;subst ha;exact h
   rw[k1,k2];constructor
   ·intro h;unfold viewAt at h;by_cases c1:decide (eP f≠0)=true
    ·rw[if_pos c1]at h;simp at c1;exact absurd h c1
    rw[if_neg c1]at h;by_cases c2:f.cancelled=true
    ·rw[if_pos c2]at h;cases h
    rw[if_neg c2]at h;by_cases c3:decide (f.ib≠0)=true
    ·rw[if_pos c3]at h;cases h
    rw[if_neg c3]at h;by_cases c4:pre.any (fun g=>decide (g.key=f.key))=true
    ·rw[if_pos c4]at h;cases h
    rw[if_neg c4]at h;by_cases c5:(decide (0<(pre.length:Int))&&decide (0≤jN (se pre) f))=true
    ·rw[if_pos c5]at h;cases h
    exact⟨⟨by simpa using c1,by simpa using c2,by simpa using c3⟩,by simpa using c4,by simpa using c5⟩
   ·rintro⟨⟨c1,c2,c3⟩,c4,c5⟩;exact KM (by simpa using c1) c2 (by simpa using c3) c4 c5
  simp only[pn];by_cases c:viewAt pre f=0
  ·rw[if_neg (by simpa using c),Uo r (pre++[f]) (Dr.1 c).2.1 (Dr.1 c).2.2,e];have hc:=Dr.1 c;simp only[List.mem_cons,forall_eq_or_imp];exact⟨fun h=>⟨⟨hc.1,h.1⟩,h.2⟩,fun h=>⟨h.1.2,h.2⟩⟩
  ·rw[if_pos (by simpa using c)];refine⟨fun h=>absurd h c,fun h=>absurd (Dr.2 ⟨h.1 f zS,?_,?_⟩) c⟩
   ·rw[e]at h;exact(List.pairwise_append.1 h.2.1).1
   ·rw[e]at h;exact(List.pairwise_append.1 h.2.2).1
theorem Cs(l:List Fact):l9 l=0↔ta l:=by
 have h:=Uo l [] .nil .nil;rw[List.nil_append]at h;unfold l9;by_cases k:decide (1000<(l.length:Int))=true
 ·rw[if_pos k];have:=of_decide_eq_true k;exact⟨fun h=>(by cases h),fun h=>(by have:=h.len;omega)⟩
 ·rw[if_neg k,h];have:¬1000<(l.length:Int):=fun e=>k (decide_eq_true e);exact⟨fun h=>⟨by omega,h.1,h.2.1,h.2.2⟩,fun h=>⟨h.each,h.keys,h.ord⟩⟩
theorem ta.sub{l l':List Fact}(h:ta l)(hs:l'.Sublist l):ta l':=
 ⟨Nat.le_trans hs.length_le h.len,fun f hf=>h.each f (hs.subset hf),h.keys.sublist hs,h.ord.sublist hs⟩
def ye(l:List aa):aa:=l.getLastD []
def nR(seen pre:List aa):List aa→Bool
 |[]=>true
 |x::r=>if((!isName x||(decide (0<(pre.length:Int))&&!aa.lt (ye pre) x))||(seen++pre).any (fun y=>decide (y=x)))=true then false else nR seen (pre++[x]) r
def nS(seen:List aa):List (List aa)→Bool
 |[]=>true
 |g::r=>if decide ((g.length:Int)=0)=true then false else if(!nR seen [] g)=true then false else nS (seen++g) r
def qb(gs:List (List aa)):Bool:=if(decide ((gs.length:Int)=0)||decide (0<((gs.headD []).length:Int)))=true then false else nS [] (gs.drop 1)
theorem adn{seen pre rest:List aa}{x:aa}(h:((!isName x||(decide (0<(pre.length:Int))&&!aa.lt (ye pre) x))||(seen++pre).any (fun y=>decide (y=x)))=true):nR seen pre (x::rest)=false:=by rw[nR,if_pos h]
theorem PB{seen pre rest:List aa}{x:aa}(h:((!isName x||(decide (0<(pre.length:Int))&&!aa.lt (ye pre) x))||(seen++pre).any (fun y=>decide (y=x)))=false):nR seen pre (x::rest)=nR seen (pre++[x]) rest:=by rw[nR,if_neg (by rw[h];simp)]
theorem aen(p:List aa)(z:aa):ye (p++[z])=z:=by simp[ye,List.getLastD_eq_getLast?]
theorem PC:∀(r seen pre:List aa),(∀x∈r,isName x=true)→(pre++r).Pairwise (fun a b=>aa.lt a b=true)→(∀x∈r,x∉seen)→nR seen pre r=true
 |[],_,_,_,_,_=>rfl
 |x::r,seen,pre,h1,h2,h3=>by
  have hp:=List.pairwise_append.1 h2;have hx:∀y∈pre,aa.lt y x=true:=fun y hy=>hp.2.2 y hy x zS;rw[PB]
  ·exact PC r seen (pre++[x]) (fun y hy=>h1 y (by simp[hy])) (by simpa using h2) (fun y hy=>h3 y (by simp[hy]))
  ·rw[h1 x zS];have a1:(decide (0<(pre.length:Int))&&!aa.lt (ye pre) x)=false:=by
    rcases List.eq_nil_or_concat pre with rfl|⟨p,z,rfl⟩
    ·rfl
    ·simp only[List.concat_eq_append]at*;rw[aen,hx z zS];simp
   have a2:(seen++pre).any (fun y=>decide (y=x))=false:=by
    rw[List.any_eq_false];intro y hy;simp only[decide_eq_true_eq];rintro rfl;rcases List.mem_append.1 hy with hy|hy
    ·exact h3 y zS hy
    ·exact afl (hx y hy) rfl
   rw[a1,a2];rfl
theorem PD:∀(r:List (List aa))(seen:List aa),(∀g∈r,g≠[])→(∀g∈r,∀x∈g,isName x=true)→(∀g∈r,g.Pairwise fun a b=>aa.lt a b=true)→(seen++r.flatten).Nodup→nS seen r=true
 |[],_,_,_,_,_=>rfl
 |g::r,seen,h1,h2,h3,h4=>by
  have hn:g≠[]:=h1 g zS;rw[List.flatten_cons,←List.append_assoc]at h4;have hd:=(List.nodup_append.1 (List.nodup_append.1 h4).1).2.2;rw[nS,if_neg (by simpa using hn),if_neg,PD r (seen++g) (fun x hx=>h1 x (by simp[hx])) (fun x hx=>h2 x (by simp[hx])) (fun x hx=>h3 x (by simp[hx])) h4];rw[PC g seen [] (h2 g zS) (by simpa using h3 g zS) (fun x hx hs=>hd x hs x hx rfl)];simp
theorem alI{r:List (List aa)}(h1:∀g∈r,g≠[])(h2:∀g∈r,∀x∈g,isName x=true)(h3:∀g∈r,g.Pairwise fun a b=>aa.lt a b=true)(h4:r.flatten.Nodup):qb ([]::r)=true:=by
 unfold qb;rw[if_neg]
 ·exact PD r [] h1 h2 h3 (by simpa using h4)
 ·simp;omega
def fy(gs:List (List aa))(x:aa):Int:=ja (fun g:List aa=>g.any fun m=>decide (x=m)) gs
def um:List Int→Int
 |[]=>0
 |x::r=>r.foldl min x
def ui:List Int→Int
 |[]=>0
 |x::r=>r.foldl max x
def iz(gs:List (List aa))(ns:List aa):Int×Int:=
 if ns.any (fun x=>decide (fy gs x<0))=true then(0,6)else if decide (((ns.map (fy gs)).length:Int)=0)=true then(0,0)
 else if decide (um (ns.map (fy gs))≠ui (ns.map (fy gs)))=true then(0,9)else((ns.map (fy gs)).headD 0,0)
theorem RF{gs:List (List aa)}{ns pre rest:List aa}{x:aa}(hx:ns=pre++x::rest)(h:decide (fy gs x<0)=true):iz gs ns=(0,6):=by
 unfold iz;rw[if_pos];exact qh hx h
theorem RG{gs:List (List aa)}{ns:List aa}(h:ns.any (fun x=>decide (fy gs x<0))=false)(h2:decide (((ns.map (fy gs)).length:Int)=0)=true):iz gs ns=(0,0):=by
 unfold iz;rw[if_neg (by rw[h];simp),if_pos h2]
theorem agE{gs:List (List aa)}{ns:List aa}(h:ns.any (fun x=>decide (fy gs x<0))=false)(h2:decide (((ns.map (fy gs)).length:Int)=0)=false)(h3:decide (um (ns.map (fy gs))≠ui (ns.map (fy gs)))=true):iz gs ns=(0,9):=by
 unfold iz;rw[if_neg (by rw[h];simp),if_neg (by rw[h2];simp),if_pos h3]
theorem RH{gs:List (List aa)}{ns:List aa}(h:ns.any (fun x=>decide (fy gs x<0))=false)(h2:decide (((ns.map (fy gs)).length:Int)=0)=false)(h3:decide (um (ns.map (fy gs))≠ui (ns.map (fy gs)))=false):iz gs ns=((ns.map (fy gs)).headD 0,0):=by
 unfold iz;rw[if_neg (by rw[h];simp),if_neg (by rw[h2];simp),if_neg (by rw[h3];simp)]
theorem NB(k:Int):∀l:List Int,(∀y∈l,y=k)→l.foldl min k=k∧l.foldl max k=k
 |[],_=>⟨rfl,rfl⟩
 |x::r,h=>by
  have e:=h x zS;subst e;have:=NB x r (fun y hy=>h y (by simp[hy]));simp only[List.foldl_cons,Int.min_self,Int.max_self];exact this
theorem RI{gs:List (List aa)}{ns:List aa}{k:Int}(hk:0≤k)(h:∀x∈ns,fy gs x=k)(hz:ns=[]→k=0):iz gs ns=(k,0):=by
 have h1:ns.any (fun x=>decide (fy gs x<0))=false:=by
  rw[List.any_eq_false];intro x hx;rw[h x hx];simp;omega
 cases ns with
 |nil=>rw[RG h1 zS,hz rfl]
 |cons a r=>
  have e:=h a zS;have hs:=NB k (r.map (fy gs)) (fun y hy=>by
   obtain⟨x,hx,rfl⟩:=List.mem_map.1 hy;exact h x (by simp[hx]))
  rw[RH h1 zQ]
  ·simp[e]
  ·simp only[List.map_cons,um,ui,e,hs.1,hs.2];simp
open Go.Proofs Go.Proofs.Tryz
set_option maxRecDepth 20000
theorem Np{α:Type}{P:α→Bool}{l pre rest:List α}{x:α}(h:l=pre++x::rest)(hp:pre.any P=false)(hx:P x=true):ja P l=(pre.length:Int)∧l.any P=true:=by
 have key:∀p:List α,p.any P=false→List.findIdx P (p++x::rest)=p.length:=by
  intro p hp;induction p with
  |nil=>simp[List.findIdx_cons,hx]
  |cons a p ih=>
   rw[List.any_cons,Bool.or_eq_false_iff]at hp;rw[List.cons_append,List.findIdx_cons,hp.1,ih hp.2];rfl
 have ha:l.any P=true:=by rw[h];simp[hx]
 refine⟨?_,ha⟩;unfold ja;rw[if_pos ha,h,key pre hp]
theorem aa2{α:Type}{P:α→Bool}{l:List α}(h:l.any P=false):ja P l=-1:=by
 unfold ja;rw[if_neg (by rw[h];simp)]
theorem Cu(k:Int):Fc Tryz.prog 105 [.i k] (.i (fC k)):=by
 refine Fc.mk' [2] func105 rfl ntmps105 rfl rfl rfl (fun t w=>results_tmp results105 t _ w) ?_;refine go [] ?_;refine br (fun h1=>?_) (fun h1=>?_)
 ·refine a_ h1 ?_;exact ah rfl (Sub.int (by obtain rfl:=of_decide_eq_true h1;rfl))
 ·refine br (fun h2=>?_) (fun h2=>?_)
  ·refine a_ h2 ?_;exact ah rfl (Sub.int (by obtain rfl:=of_decide_eq_true h2;rfl))
  ·refine br (fun h3=>?_) (fun h3=>?_)
   ·refine a_ h3 ?_;exact ah rfl (Sub.int (by obtain rfl:=of_decide_eq_true h3;rfl))
   ·refine br (fun h4=>?_) (fun h4=>?_)
    ·refine a_ h4 ?_;exact ah rfl (Sub.int (by obtain rfl:=of_decide_eq_true h4;rfl))
    ·refine br (fun h5=>?_) (fun h5=>?_)
     ·refine a_ h5 ?_;exact ah rfl (Sub.int (by obtain rfl:=of_decide_eq_true h5;rfl))
     ·refine br (fun h6=>?_) (fun h6=>?_)
      ·exact ah rfl (Sub.int (by obtain rfl:=of_decide_eq_true h6;rfl))
      ·refine br (fun h7=>?_) (fun h7=>?_)
       ·refine a_ h7 ?_;exact ah rfl (Sub.int (by obtain rfl:=of_decide_eq_true h7;rfl))
       ·refine br (fun h8=>?_) (fun h8=>?_)
        ·refine a_ h8 ?_;exact ah rfl (Sub.int (by obtain rfl:=of_decide_eq_true h8;rfl))
        ·refine br (fun h9=>?_) (fun h9=>?_)
         ·refine a_ h9 ?_;exact ah rfl (Sub.int (by obtain rfl:=of_decide_eq_true h9;rfl))
         ·refine br (fun cK=>?_) (fun cK=>?_)
          ·refine a_ cK ?_;exact ah rfl (Sub.int (by obtain rfl:=of_decide_eq_true cK;rfl))
          ·refine br (fun cM=>?_) (fun cM=>?_)
           ·refine a_ cM ?_;exact ah rfl (Sub.int (by obtain rfl:=of_decide_eq_true cM;rfl))
           ·refine br (fun dN=>?_) (fun dN=>?_)
            ·exact ah rfl (Sub.int (by obtain rfl:=of_decide_eq_true dN;rfl))
            ·refine br (fun fh=>?_) (fun fh=>?_)
             ·refine a_ fh ?_;exact ah rfl (Sub.int (by obtain rfl:=of_decide_eq_true fh;rfl))
             ·refine br (fun me=>?_) (fun me=>?_)
              ·refine a_ me ?_;exact ah rfl (Sub.int (by obtain rfl:=of_decide_eq_true me;rfl))
              ·refine br (fun mV=>?_) (fun mV=>?_)
               ·exact ah rfl (Sub.int (by obtain rfl:=of_decide_eq_true mV;rfl))
               ·refine br (fun jt=>?_) (fun jt=>?_)
                ·refine a_ jt ?_;exact ah rfl (Sub.int (by obtain rfl:=of_decide_eq_true jt;rfl))
                ·refine br (fun mf=>?_) (fun mf=>?_)
                 ·refine a_ mf ?_;exact ah rfl (Sub.int (by obtain rfl:=of_decide_eq_true mf;rfl))
                 ·refine br (fun oI=>?_) (fun oI=>?_)
                  ·exact ah rfl (Sub.int (by obtain rfl:=of_decide_eq_true oI;rfl))
                  ·exact ah rfl (Sub.int (by simp only[bs]at*;simp[fC,dC, *]))
theorem WD(a b:Fact):Fc Tryz.prog 60 [.agg (aM a),.agg (aM b)] (.i (jN a b)):=by
 refine Fc.mk' [4] func60 rfl ntmps60 rfl rfl rfl (fun t w=>results_tmp results60 t _ w) ?_;refine go [] ?_;refine br (fun h1=>?_) (fun h1=>?_)
 ·refine br (fun h2=>?_) (fun h2=>?_)
  ·exact ah rfl (Sub.int (by unfold jN;exact fI h1 (iT h2)))
  ·exact ah rfl (Sub.int (by unfold jN;exact fI h1 (iF h2 rfl)))
 ·refine oP (ai call105 rfl (Cu _)) ?_;refine oP (ai call105 rfl (Cu _)) ?_;refine ord ?_;refine br (fun h3=>?_) (fun h3=>?_)
  ·refine oP (ai call105 rfl (Cu _)) ?_;refine oP (ai call105 rfl (Cu _)) ?_;refine ord ?_;refine br (fun h4=>?_) (fun h4=>?_)
   ·exact ah rfl (Sub.int (by unfold jN;exact iF h1 (fI h3 (iT h4))))
   ·exact ah rfl (Sub.int (by unfold jN;exact iF h1 (fI h3 (iF h4 rfl))))
  ·refine br (fun h5=>?_) (fun h5=>?_)
   ·refine br (fun h6=>?_) (fun h6=>?_)
    ·exact ah rfl (Sub.int (by unfold jN;exact iF h1 (iF h3 (fI h5 (iT h6)))))
    ·exact ah rfl (Sub.int (by unfold jN;exact iF h1 (iF h3 (fI h5 (iF h6 rfl)))))
   ·exact ah rfl (Sub.int (by unfold jN;exact iF h1 (iF h3 (iF h5 rfl))))
structure aaX(l:List Fact)(k:aa)(hl:l.length≤1000)where
 pre:List Fact
 rest:List Fact
 hx:l=pre++rest
 hp:pre.any (fun y:Fact=>decide (y.key=k))=false
theorem aaW(l:List Fact)(k:aa)(hl:l.length≤1000):Fc Tryz.prog 59 [bz l,.str k] (.bf [.i (max (ja (fun y:Fact=>decide (y.key=k)) l) 0),.b (l.any (fun y:Fact=>decide (y.key=k)))]):=by
 refine Fc.mk' [4,5] func59 rfl ntmps59 rfl rfl rfl (fun t w=>results_tmp2 results59 t _ w) ?_;refine go [] ?_;refine J.loop (ι:=aaX l k hl) (fun sx=>[(0,bz l),(1,.str k),(6,.i sx.pre.length)]) (fun sx=>[]) (fun sx=>sx.rest.length) ⟨[],_,rfl,rfl⟩ ?_ ?_
 ·exact Le.mk rfl (.s rfl rfl (.s rfl rfl (.s rfl rfl .nil))) .nil
 ·rintro⟨pre,rest,hx,hp⟩;show J _ _ _ _ [(0,bz l),(1,.str k),(6,.i pre.length)] [];have hl:=congrArg List.length hx;simp only[List.length_append]at hl;rcases rest with _|⟨x,rest⟩
  ·skip;refine go [] ?_;refine aR (by simp at hl⊢;omega) ?_;refine go [] ?_;exact gS rfl rfl (Sub.int (by(rw[aa2 (by rw[hx,List.append_nil];exact hp)];rfl))) (Sub.bool (by rw[hx,List.append_nil,hp]))
  ·simp only[List.length_cons]at hl;refine go [] ?_;refine a_ zQ ?_;refine ix zO (bn aM hx rfl) ?_;refine br (fun h1=>?_) (fun h1=>?_)
   ·exact gS rfl rfl (Sub.int (by(rw[(Np hx hp h1).1];omega))) (Sub.bool (by rw[(Np hx hp h1).2]))
   ·refine sd (az zO) ?_;exact nx ⟨pre++[x],rest,by simp[hx],by rw[List.any_append,hp];simpa using h1⟩ zS (Le.mk rfl (.s rfl rfl (.s rfl rfl (.cons rfl (Sub.int zS) rfl .nil))) .nil)
structure alO(l:List Fact)(hf:∀f∈l,qt f)where
 pre:List Fact
 rest:List Fact
 hx:l=pre++rest
 hp:l9 l=pn pre rest
 Ab:l.length≤1000
theorem KL(l:List Fact)(hf:∀f∈l,qt f):Fc Tryz.prog 24 [bz l] (.i (l9 l)):=by
 refine Fc.mk' [2] func24 rfl ntmps24 rfl rfl rfl (fun t w=>results_tmp results24 t _ w) ?_;refine J.ej 0 rfl (fun hb=>?_);simp only[List.length_map,aG]at hb;refine go [] ?_;refine br (fun h1=>?_) (fun h1=>?_)
 ·exact ah rfl (Sub.int (by(unfold l9;exact iT (by simpa using h1))))
 ·refine J.loop (ι:=alO l hf) (fun sx=>[(0,bz l),(3,.i sx.pre.length)]) (fun sx=>[]) (fun sx=>sx.rest.length) ⟨[],_,rfl,by unfold l9;rw[if_neg (by simpa using h1)],by simp at h1;omega⟩ ?_ ?_
  ·exact Le.mk rfl (.s rfl rfl (.s rfl rfl .nil)) .nil
  ·rintro⟨pre,rest,hx,hp,Ab⟩;show J _ _ _ _ [(0,bz l),(3,.i pre.length)] [];have hl:=congrArg List.length hx;simp only[List.length_append]at hl;rcases rest with _|⟨x,rest⟩
   ·skip;refine go [] ?_;refine aR (by simp at hl⊢;omega) ?_;refine go [] ?_;exact ah rfl (Sub.int (by exact hp.symm))
   ·simp only[List.length_cons]at hl;refine go [] ?_;refine a_ zQ ?_;refine ix zO (bn aM hx rfl) ?_;refine oP (ai call53 rfl (Wu x (hf x (by rw[hx];simp)))) ?_;refine br (fun h2=>?_) (fun h2=>?_)
    ·exact ah rfl (Sub.int (by exact rv hp (Uj h2) (of_decide_eq_true h2)))
    ·refine ix zO (bn aM hx rfl) ?_;refine br (fun h3=>?_) (fun h3=>?_)
     ·exact ah rfl (Sub.int (by exact rv hp (Uk h2 h3) zD))
     ·refine ix zO (bn aM hx rfl) ?_;refine br (fun h4=>?_) (fun h4=>?_)
      ·exact ah rfl (Sub.int (by exact rv hp (Ul h2 h3 h4) zD))
      ·refine oP (uC underlying31 sizeOf39 rfl (l:=0) (h:=pre.length) (r:=pre.map aM) (.inl ⟨rfl,rfl⟩) (.inr ⟨_,_,rfl,rfl⟩) zO (by simp[hx]) (by rw[hx];simp)) ?_;refine ix zO (bn aM hx rfl) ?_;refine oP (ai call59 rfl (aaW pre x.key zO)) ?_;refine ord ?_;refine br (fun h5=>?_) (fun h5=>?_)
       ·exact ah rfl (Sub.int (by exact rv hp (Um h2 h3 h4 h5) zD))
       ·refine Tu (fun hg=>eJ zO zO) ?_;refine wb (fun hg=>And.intro (by simp[lW]at hg;omega) (DJ aM hx (by simp[lW]at hg;omega) rfl)) ?_;refine wb (fun hg=>And.intro zO (bn aM hx rfl)) ?_;refine gP (fun hg=>ai call60 rfl (WD (se pre) x)) ?_;refine ord ?_;refine br (fun h6=>?_) (fun h6=>?_)
        ·exact ah rfl (Sub.int (by exact rv hp (Un h2 h3 h4 h5 h6) zD))
        ·refine sd (az zO) ?_;exact nx ⟨pre++[x],rest,by simp[hx],Up hp (KM h2 h3 h4 h5 h6),Ab⟩ zS (Le.mk rfl (.s rfl rfl (.cons rfl (Sub.int zS) rfl .nil)) .nil)
structure aiV(f:Fact)where
 pre:List cX
 rest:List cX
 hx:f.fe=pre++rest
structure aiW(f:Fact)where
 pre:List cR
 rest:List cR
 hx:f.opts=pre++rest
theorem aiU(f:Fact):Fc Tryz.prog 28 [.agg (aM f),.agg (aM f)] (.b true):=by
 refine Fc.mk' [4] func28 rfl ntmps28 rfl rfl rfl (fun t w=>results_tmp results28 t _ w) ?_;refine J.rG 0 18 rfl rfl (fun hb=>?_);refine J.rG 0 19 rfl rfl (fun fp=>?_);simp only[List.length_map,aG]at hb fp;refine go [] ?_;refine aR zS ?_;refine gP (fun hg=>sX (xs:=[f.du.num,f.du.den]) (ys:=[f.du.num,f.du.den]) underlying35 (by kernel_rfl) (by kernel_rfl) (.cons zK underlying33 isAgg33 rfl (.cons zK underlying33 isAgg33 rfl (.nil _))) rfl rfl rfl rfl rfl rfl) ?_;refine gP (fun hg=>sX (xs:=[f.ratio.num,f.ratio.den]) (ys:=[f.ratio.num,f.ratio.den]) underlying35 (by kernel_rfl) (by kernel_rfl) (.cons zK underlying33 isAgg33 rfl (.cons zK underlying33 isAgg33 rfl (.nil _))) rfl rfl rfl rfl rfl rfl) ?_;refine gP (fun hg=>sX (xs:=[f.share.num,f.share.den]) (ys:=[f.share.num,f.share.den]) underlying35 (by kernel_rfl) (by kernel_rfl) (.cons zK underlying33 isAgg33 rfl (.cons zK underlying33 isAgg33 rfl (.nil _))) rfl rfl rfl rfl rfl rfl) ?_;refine aR zS ?_;refine J.loop (ι:=aiV f) (fun sx=>[(2,.box 0 0),(3,.box 1 0),(5,.i sx.pre.length)]) (fun sx=>[(0,.cells (aM f)),(1,.cells (aM f))]) (fun sx=>sx.rest.length) ⟨[],_,rfl⟩ ?_ ?_
 ·exact Le.mk rfl (.s rfl rfl (.s rfl rfl (.s rfl rfl .nil))) (.cons rfl rfl (.cons rfl rfl .nil))
 ·rintro⟨pre,rest,hx⟩;show J _ _ _ _ [(2,.box 0 0),(3,.box 1 0),(5,.i pre.length)] [(0,.cells (aM f)),(1,.cells (aM f))];have hl:=congrArg List.length hx;simp only[List.length_append]at hl;rcases rest with _|⟨x,rest⟩
  ·skip;refine go [] ?_;refine aR (by simp at hl⊢;omega) ?_;refine go [] ?_;refine J.loop (ι:=aiW f) (fun sx=>[(2,.box 0 0),(3,.box 1 0),(6,.i sx.pre.length)]) (fun sx=>[(0,.cells (aM f)),(1,.cells (aM f))]) (fun sx=>sx.rest.length) ⟨[],_,rfl⟩ ?_ ?_
   ·exact Le.mk rfl (.s rfl rfl (.s rfl rfl (.s rfl rfl .nil))) (.cons rfl rfl (.cons rfl rfl .nil))
   ·rintro⟨pre,rest,hx⟩;show J _ _ _ _ [(2,.box 0 0),(3,.box 1 0),(6,.i pre.length)] [(0,.cells (aM f)),(1,.cells (aM f))];have hl:=congrArg List.length hx;simp only[List.length_append]at hl;rcases rest with _|⟨x,rest⟩
    ·skip;refine go [] ?_;refine aR (by simp at hl⊢;omega) ?_;refine go [] ?_;exact ah rfl (Sub.refl _)
    ·simp only[List.length_cons]at hl;refine go [] ?_;refine a_ zQ ?_;refine ix zO (bn lA hx rfl) ?_;refine ix zO (bn lA hx rfl) ?_;refine oP (SU (xs:=(sJ x)) (ys:=(sJ x)) underlying87 (by kernel_rfl) (by kernel_rfl) (.str zK underlying9 isAgg9 rfl (.sub zK underlying35 (by kernel_rfl) isAgg35 sizeOf35 rfl (.cons zK underlying33 isAgg33 rfl (.cons zK underlying33 isAgg33 rfl (.nil _))) rfl (.sub zK underlying35 (by kernel_rfl) isAgg35 sizeOf35 rfl (.cons zK underlying33 isAgg33 rfl (.cons zK underlying33 isAgg33 rfl (.nil _))) rfl (.sub zK underlying35 (by kernel_rfl) isAgg35 sizeOf35 rfl (.cons zK underlying33 isAgg33 rfl (.cons zK underlying33 isAgg33 rfl (.nil _))) rfl (.nil _))))) rfl rfl rfl rfl rfl rfl) ?_;refine ord ?_;refine aR zS ?_;refine sd (az zO) ?_;exact nx ⟨pre++[x],rest,by simp[hx]⟩ zS (Le.mk rfl (.s rfl rfl (.s rfl rfl (.cons rfl (Sub.int zS) rfl .nil))) (.cons rfl rfl (.cons rfl rfl .nil)))
  ·simp only[List.length_cons]at hl;refine go [] ?_;refine a_ zQ ?_;refine ix zO (bn iQ hx rfl) ?_;refine ix zO (bn iQ hx rfl) ?_;refine oP (sX (xs:=[x.fc,x.c_]) (ys:=[x.fc,x.c_]) underlying85 (by kernel_rfl) (by kernel_rfl) (.cons zK underlying9 isAgg9 rfl (.cons zK underlying33 isAgg33 rfl (.nil _))) rfl rfl rfl rfl rfl rfl) ?_;refine ord ?_;refine aR zS ?_;refine sd (az zO) ?_;exact nx ⟨pre++[x],rest,by simp[hx]⟩ zS (Le.mk rfl (.s rfl rfl (.s rfl rfl (.cons rfl (Sub.int zS) rfl .nil))) (.cons rfl rfl (.cons rfl rfl .nil)))
end Go.T
