/-
  Contracts of the functions that the statement reaches, and the logic in which they are proved (no condition): parts W120, SpecV1, W121, W122, W123, W124, W125, SpecV2, SpecV3, W126, W127, SpecG1, SpecG2, SpecG3.
-/
import Derived.Test.YtapflgppmigcdaaGreatDoorA19
set_option linter.all false
namespace Go.T
open Go Go.Proofs Go.Proofs.Tryz
set_option maxRecDepth 20000
@[reducible] def vX(d:Int):Bool:=decide (d< -25567)||decide (84005<d)
theorem aad{d:Int}(h:decide ((if vX d=true then(13:Int)else 0)≠0)=true):vX d=true:=by
 cases k:vX d with
 |true=>rfl
 |false=>rw[k]at h;exact absurd h zD
theorem Oi{d:Int}(h:decide ((if vX d=true then(13:Int)else 0)≠0)=false):vX d=false:=by
 cases k:vX d with
 |true=>rw[k]at h;exact absurd h zD
 |false=>rfl
theorem amc:jj (cw 1 1):=by unfold jj;decide+kernel
theorem ab5{e:Int}{f:Fact}{n:Int}{l:List Int}(hp:e=lr f (n::l))(h:lz f.kind n=true)(h2:decide (rh f n≠0)=true):rh f n=e:=by rw[hp,lr,if_pos h,if_pos h2]
theorem ab6{e:Int}{f:Fact}{n:Int}{l:List Int}(hp:e=lr f (n::l))(h:lz f.kind n=true)(h2:decide (rh f n≠0)=false):e=lr f l:=by rw[hp,lr,if_pos h,if_neg (by rw[h2];simp)]
theorem ab7{e:Int}{f:Fact}{n:Int}{l:List Int}(hp:e=lr f (n::l))(h:lz f.kind n=false)(h2:(!dT f n)=true):1=e:=by rw[hp,lr,if_neg (by rw[h];simp),if_pos h2]
theorem ab8{e:Int}{f:Fact}{n:Int}{l:List Int}(hp:e=lr f (n::l))(h:lz f.kind n=false)(h2:(!dT f n)=false):e=lr f l:=by rw[hp,lr,if_neg (by rw[h];simp),if_neg (by rw[h2];simp)]
theorem YJ{f:Fact}(h1:(!isName f.key)=true):23=jV f:=by unfold jV;exact iT h1
theorem YK{f:Fact}(h1:(!isName f.key)=false)(h2:decide (f.lW<0)=true):2=jV f:=by unfold jV;exact iF h1 (iT h2)
theorem YL{f:Fact}(h1:(!isName f.key)=false)(h2:decide (f.lW<0)=false)(h3:f.cancelled=true)(h4:ic.any (fun n=>!dT f n)=true):1=jV f:=by unfold jV;exact iF h1 (iF h2 (ga h3 (iT h4)))
theorem YM{f:Fact}(h1:(!isName f.key)=false)(h2:decide (f.lW<0)=false)(h3:f.cancelled=true)(h4:ic.any (fun n=>!dT f n)=false)(h5:(decide (f.day≠0)||decide (f.kind≠0))=true):1=jV f:=by unfold jV;exact iF h1 (iF h2 (ga h3 (iF h4 (iT h5))))
theorem YN{f:Fact}(h1:(!isName f.key)=false)(h2:decide (f.lW<0)=false)(h3:f.cancelled=true)(h4:ic.any (fun n=>!dT f n)=false)(h5:(decide (f.day≠0)||decide (f.kind≠0))=false):0=jV f:=by unfold jV;exact iF h1 (iF h2 (ga h3 (iF h4 (iF h5 rfl))))
theorem YO{f:Fact}(h1:(!isName f.key)=false)(h2:decide (f.lW<0)=false)(h3:f.cancelled=false)(h4:(decide (f.day< -25567)||decide (84005<f.day))=true):13=jV f:=by unfold jV;exact iF h1 (iF h2 (iF h3 (iT h4)))
theorem YP{f:Fact}(h1:(!isName f.key)=false)(h2:decide (f.lW<0)=false)(h3:f.cancelled=false)(h4:(decide (f.day< -25567)||decide (84005<f.day))=false)(h5:decide (xM f.kind=[])=true):7=jV f:=by unfold jV;exact iF h1 (iF h2 (iF h3 (iF h4 (iT h5))))
theorem YQ{f:Fact}(h1:(!isName f.key)=false)(h2:decide (f.lW<0)=false)(h3:f.cancelled=false)(h4:(decide (f.day< -25567)||decide (84005<f.day))=false)(h5:decide (xM f.kind=[])=false):jV f=lr f ic:=by unfold jV;exact(iF h1 (iF h2 (iF h3 (iF h4 (iF h5 rfl))))).symm
theorem HR(d:Int):Fc Tryz.prog 96 [.i d] (.i (if vX d=true then 13 else 0)):=by
 refine Fc.mk' [2] func96 rfl ntmps96 rfl rfl rfl (fun t w=>results_tmp results96 t _ w) ?_;refine go [] ?_;refine br (fun h1=>?_) (fun h1=>?_)
 ·exact ah rfl (Sub.int (by exact iT h1))
 ·exact ah rfl (Sub.int (by exact iF h1 rfl))
theorem acj(f:Fact)(n:Int)(hf:sL f)(h0:0≤n)(hn:n<13):Fc Tryz.prog 99 [.agg (aX f),.i n] (.i (rh f n)):=by
 refine Fc.mk' [4] func99 rfl ntmps99 rfl rfl rfl (fun t w=>results_tmp results99 t _ w) ?_;refine go [] ?_;refine br (fun h1=>?_) (fun h1=>?_)
 ·refine oP (ai call137 rfl (T2 _)) ?_;exact ah rfl (Sub.int (by obtain rfl:=of_decide_eq_true h1;rfl))
 ·refine br (fun h2=>?_) (fun h2=>?_)
  ·refine oP (ai call138 rfl (ai8 f)) ?_;exact ah rfl (Sub.int (by obtain rfl:=of_decide_eq_true h2;rfl))
  ·refine br (fun h3=>?_) (fun h3=>?_)
   ·refine oP (ai call139 rfl (DI _)) ?_;refine br (fun h4=>?_) (fun h4=>?_)
    ·exact ah rfl (Sub.int (by(obtain rfl:=of_decide_eq_true h3;(show _=if(!fF f.cur)=true then(12:Int)else 0;exact iT zA))))
    ·exact ah rfl (Sub.int (by(obtain rfl:=of_decide_eq_true h3;(show _=if(!fF f.cur)=true then(12:Int)else 0;exact iF zA rfl))))
   ·refine br (fun h5=>?_) (fun h5=>?_)
    ·refine oP (ai call137 rfl (T2 _)) ?_;exact ah rfl (Sub.int (by obtain rfl:=of_decide_eq_true h5;rfl))
    ·refine br (fun h6=>?_) (fun h6=>?_)
     ·refine oP (ai call140 rfl (Xm f.dm)) ?_;exact ah rfl (Sub.int (by obtain rfl:=of_decide_eq_true h6;rfl))
     ·refine br (fun h7=>?_) (fun h7=>?_)
      ·refine oP (ai call141 rfl (agM _ _)) ?_;refine oP (ai call140 rfl (MN f.mN (zR f.kind 5))) ?_;refine ord ?_;exact ah rfl (Sub.int (by obtain rfl:=of_decide_eq_true h7;rfl))
      ·refine br (fun h8=>?_) (fun h8=>?_)
       ·refine oP (ai call140 rfl (an2 f.mU)) ?_;exact ah rfl (Sub.int (by obtain rfl:=of_decide_eq_true h8;rfl))
       ·refine br (fun h9=>?_) (fun h9=>?_)
        ·refine oP (ai call142 rfl (zB f.d_ _ hf.d_)) ?_;exact ah rfl (Sub.int (by obtain rfl:=of_decide_eq_true h9;rfl))
        ·refine br (fun ct=>?_) (fun ct=>?_)
         ·refine oP (ai call142 rfl (zB f.ratio true hf.ratio)) ?_;exact ah rfl (Sub.int (by obtain rfl:=of_decide_eq_true ct;rfl))
         ·refine br (fun cI=>?_) (fun cI=>?_)
          ·refine oP (ai call142 rfl (zB f.share false hf.share)) ?_;refine br (fun dI=>?_) (fun dI=>?_)
           ·exact ah rfl (Sub.int (by(obtain rfl:=of_decide_eq_true cI;(show _=tT f.share;unfold tT;exact iT zA))))
           ·refine oP (ai call144 rfl akc) ?_;refine oP (ai call143 rfl (N4 f.share (cw 1 1) hf.share amc)) ?_;refine ord ?_;refine br (fun fR=>?_) (fun fR=>?_)
            ·exact ah rfl (Sub.int (by(obtain rfl:=of_decide_eq_true cI;(show _=tT f.share;unfold tT;exact iF zA (iT zA)))))
            ·exact ah rfl (Sub.int (by(obtain rfl:=of_decide_eq_true cI;(show _=tT f.share;unfold tT;exact iF zA (iF zA rfl)))))
          ·refine br (fun mc=>?_) (fun mc=>?_)
           ·refine oP (ai call145 rfl (ajm f hf)) ?_;exact ah rfl (Sub.int (by obtain rfl:=of_decide_eq_true mc;rfl))
           ·refine br (fun mW=>?_) (fun mW=>?_)
            ·refine oP (ai call146 rfl (aiQ f hf)) ?_;exact ah rfl (Sub.int (by obtain rfl:=of_decide_eq_true mW;rfl))
            ·refine br (fun jc=>?_) (fun jc=>?_)
             ·refine br (fun qj=>?_) (fun qj=>?_)
              ·exact ah rfl (Sub.int (by(obtain rfl:=of_decide_eq_true jc;(show _=if decide (f.choice<0)=true then(2:Int)else 0;exact iT zA))))
              ·exact ah rfl (Sub.int (by(obtain rfl:=of_decide_eq_true jc;(show _=if decide (f.choice<0)=true then(2:Int)else 0;exact iF zA rfl))))
             ·exact ah rfl (Sub.int (by exfalso;simp at*;omega))
structure Zp(f:Fact)where
 pre:List Int
 rest:List Int
 hx:ic=pre++rest
 ha:pre.any (fun n=>!dT f n)=false
structure Zq(f:Fact)where
 pre:List Int
 rest:List Int
 hx:ic=pre++rest
 hp:jV f=lr f rest
theorem Zo(f:Fact)(hf:sL f):Fc Tryz.prog 53 [.agg (aX f)] (.i (jV f)):=by
 refine Fc.mk' [2] func53 rfl ntmps53 rfl rfl rfl (fun t w=>results_tmp results53 t _ w) ?_;refine go [] ?_;refine oP (ai call94 rfl (w8 _)) ?_;refine br (fun h1=>?_) (fun h1=>?_)
 ·exact ah rfl (Sub.int (by exact YJ h1))
 ·refine br (fun h2=>?_) (fun h2=>?_)
  ·exact ah rfl (Sub.int (by exact YK h1 h2))
  ·refine br (fun h3=>?_) (fun h3=>?_)
   ·refine J.loop (ι:=Zp f) (fun sx=>[(1,.box 0 0),(3,.i sx.pre.length)]) (fun sx=>[(0,.cells (aX f))]) (fun sx=>sx.rest.length) ⟨[],_,rfl,rfl⟩ ?_ ?_
    ·exact Le.mk rfl (.s rfl rfl (.s rfl rfl .nil)) (.cons rfl rfl .nil)
    ·rintro⟨pre,rest,hx,ha⟩;show J _ _ _ _ [(1,.box 0 0),(3,.i pre.length)] [(0,.cells (aX f))];rcases rest with _|⟨x,rest⟩
     ·have hl:=congrArg List.length hx;simp only[List.length_append,List.length_cons,List.length_nil]at hl;refine go [] ?_;refine a_ zQ ?_;refine go [] ?_;refine br (fun h4=>?_) (fun h4=>?_)
      ·exact ah rfl (Sub.int (by exact YM h1 h2 h3 (by rw[hx,List.append_nil];exact ha) zA))
      ·exact ah rfl (Sub.int (by exact YN h1 h2 h3 (by rw[hx,List.append_nil];exact ha) zA))
     ·obtain⟨e9,fR⟩:=Eh hx;subst e9;refine go [] ?_;refine bk zQ ?_;refine oP (ai call95 rfl (Xv f (pre.length:Int) zO zO)) ?_;refine br (fun h5=>?_) (fun h5=>?_)
      ·exact ah rfl (Sub.int (by exact YL h1 h2 h3 (by rw[hx,List.any_append,List.any_cons];simp at*;grind)))
      ·have lJ:=h5;try simp only[bs]at lJ
       refine sd (aw zO) ?_;exact nx ⟨pre++[(pre.length:Int)],rest,by simp[hx],by rw[List.any_append,ha];simpa using zA⟩ zS (Le.mk rfl (.s rfl rfl (.cons rfl (Sub.int zS) rfl .nil)) (.cons rfl rfl .nil))
   ·refine oP (ai call96 rfl (HR _)) ?_;refine br (fun h6=>?_) (fun h6=>?_)
    ·exact ah rfl (Sub.int (by exact YO h1 h2 h3 (aad zA)))
    ·refine oP (ai call97 rfl (an7 _)) ?_;refine br (fun h7=>?_) (fun h7=>?_)
     ·exact ah rfl (Sub.int (by exact YP h1 h2 h3 (Oi zA) zA))
     ·refine J.loop (ι:=Zq f) (fun sx=>[(1,.box 0 0),(4,.i sx.pre.length)]) (fun sx=>[(0,.cells (aX f))]) (fun sx=>sx.rest.length) ⟨[],_,rfl,YQ h1 h2 h3 (Oi zA) zA⟩ ?_ ?_
      ·exact Le.mk rfl (.s rfl rfl (.s rfl rfl .nil)) (.cons rfl rfl .nil)
      ·rintro⟨pre,rest,hx,hp⟩;show J _ _ _ _ [(1,.box 0 0),(4,.i pre.length)] [(0,.cells (aX f))];rcases rest with _|⟨x,rest⟩
       ·have hl:=congrArg List.length hx;simp only[List.length_append,List.length_cons,List.length_nil]at hl;refine go [] ?_;refine a_ zQ ?_;refine go [] ?_;exact ah rfl (Sub.int (by exact hp.symm))
       ·obtain⟨e9,fR⟩:=Eh hx;subst e9;refine go [] ?_;refine bk zQ ?_;refine oP (ai call98 rfl (aea _ _)) ?_;refine br (fun h8=>?_) (fun h8=>?_)
        ·refine oP (ai call99 rfl (acj f (pre.length:Int) hf zO zO)) ?_;refine br (fun h9=>?_) (fun h9=>?_)
         ·exact ah rfl (Sub.int (by exact ab5 hp zA zA))
         ·refine sd (aw zO) ?_;exact nx ⟨pre++[(pre.length:Int)],rest,by simp[hx],by exact ab6 hp zA zA⟩ zS (Le.mk rfl (.s rfl rfl (.cons rfl (Sub.int zS) rfl .nil)) (.cons rfl rfl .nil))
        ·refine oP (ai call95 rfl (Xv f (pre.length:Int) zO zO)) ?_;refine br (fun ct=>?_) (fun ct=>?_)
         ·exact ah rfl (Sub.int (by exact ab7 hp zA zA))
         ·refine sd (aw zO) ?_;exact nx ⟨pre++[(pre.length:Int)],rest,by simp[hx],by exact ab8 hp zA zA⟩ zS (Le.mk rfl (.s rfl rfl (.cons rfl (Sub.int zS) rfl .nil)) (.cons rfl rfl .nil))
theorem HI(f:Fact)(hf:sL f):Fc Tryz.prog 53 [.agg (aX f)] (.i (gJ f)):=by
 have:=Zo f hf;rwa[Zn]at this
end Go.T
namespace Go.T
open Go
theorem rN:∀a b:aa,aa.lt a b=true↔a<b
 |[],[]=>by simp[aa.lt,Op.bytesLess]
 |[],_::_=>by simp[aa.lt,Op.bytesLess]
 |_::_,[]=>by simp[aa.lt,Op.bytesLess]
 |x::a,y::b=>by
  rw[SU,List.cons_lt_cons_iff];have ih:=rN a b;simp only[Bool.or_eq_true,Bool.and_eq_true,decide_eq_true_eq,ih];rfl
theorem KJ{a b c:aa}(h1:aa.lt a b=true)(h2:aa.lt b c=true):aa.lt a c=true:=by
 rw[rN]at*;exact List.lt_trans h1 h2
theorem ag8(a:aa):aa.lt a a=false:=by
 cases h:aa.lt a a with
 |false=>rfl
 |true=>rw[rN]at h;exact absurd h (List.lt_irrefl a)
theorem KI{a b:aa}(h:aa.lt a b=true):a≠b:=by rintro rfl;rw[ag8]at h;cases h
theorem Sz{a b:aa}(h:a≤b)(hn:a≠b):aa.lt a b=true:=by
 rw[rN];exact Decidable.byContradiction fun k=>hn (List.le_antisymm h (List.not_lt.1 k))
def qz(l:List aa):aa:=l.getLastD []
def j_(seen pre:List aa):List aa→Bool
 |[]=>true
 |x::r=>if((!isName x||(decide (0<(pre.length:Int))&&!aa.lt (qz pre) x))||(seen++pre).any (fun y=>decide (y=x)))=true then false else j_ seen (pre++[x]) r
def nR(seen:List aa):List (List aa)→Bool
 |[]=>true
 |g::r=>if decide ((g.length:Int)=0)=true then false else if(!j_ seen [] g)=true then false else nR (seen++g) r
def n_(gs:List (List aa)):Bool:=if(decide ((gs.length:Int)=0)||decide (0<((gs.headD []).length:Int)))=true then false else nR [] (gs.drop 1)
theorem Kp{seen pre rest:List aa}{x:aa}(h:((!isName x||(decide (0<(pre.length:Int))&&!aa.lt (qz pre) x))||(seen++pre).any (fun y=>decide (y=x)))=true):j_ seen pre (x::rest)=false:=by rw[j_,if_pos h]
theorem Ko{seen pre rest:List aa}{x:aa}(h:((!isName x||(decide (0<(pre.length:Int))&&!aa.lt (qz pre) x))||(seen++pre).any (fun y=>decide (y=x)))=false):j_ seen pre (x::rest)=j_ seen (pre++[x]) rest:=by rw[j_,if_neg (by rw[h];simp)]
theorem Ss(p:List aa)(z:aa):qz (p++[z])=z:=by simp[qz,List.getLastD_eq_getLast?]
def fb(gs:List (List aa))(x:aa):Int:=jq (fun g:List aa=>g.any fun m=>decide (x=m)) gs
def rS:List Int→Int
 |[]=>0
 |x::r=>r.foldl min x
def rQ:List Int→Int
 |[]=>0
 |x::r=>r.foldl max x
def jf(gs:List (List aa))(ns:List aa):Int×Int:=
 if ns.any (fun x=>decide (fb gs x<0))=true then(0,6)else if decide (((ns.map (fb gs)).length:Int)=0)=true then(0,0)
 else if decide (rS (ns.map (fb gs))≠rQ (ns.map (fb gs)))=true then(0,9)else((ns.map (fb gs)).headD 0,0)
theorem Lv{gs:List (List aa)}{ns pre rest:List aa}{x:aa}(hx:ns=pre++x::rest)(h:decide (fb gs x<0)=true):jf gs ns=(0,6):=by
 unfold jf;rw[if_pos];exact nD hx h
theorem Uq{gs:List (List aa)}{ns:List aa}(h:ns.any (fun x=>decide (fb gs x<0))=false)(h2:decide (((ns.map (fb gs)).length:Int)=0)=true):jf gs ns=(0,0):=by
 unfold jf;rw[if_neg (by rw[h];simp),if_pos h2]
theorem Us{gs:List (List aa)}{ns:List aa}(h:ns.any (fun x=>decide (fb gs x<0))=false)(h2:decide (((ns.map (fb gs)).length:Int)=0)=false)(h3:decide (rS (ns.map (fb gs))≠rQ (ns.map (fb gs)))=true):jf gs ns=(0,9):=by
 unfold jf;rw[if_neg (by rw[h];simp),if_neg (by rw[h2];simp),if_pos h3]
theorem Ut{gs:List (List aa)}{ns:List aa}(h:ns.any (fun x=>decide (fb gs x<0))=false)(h2:decide (((ns.map (fb gs)).length:Int)=0)=false)(h3:decide (rS (ns.map (fb gs))≠rQ (ns.map (fb gs)))=false):jf gs ns=((ns.map (fb gs)).headD 0,0):=by
 unfold jf;rw[if_neg (by rw[h];simp),if_neg (by rw[h2];simp),if_neg (by rw[h3];simp)]
theorem PQ(k:Int):∀l:List Int,(∀y∈l,y=k)→l.foldl min k=k∧l.foldl max k=k
 |[],_=>⟨rfl,rfl⟩
 |x::r,h=>by
  have e:=h x zS;subst e;have:=PQ x r (fun y hy=>h y (by simp[hy]));simp only[List.foldl_cons,Int.min_self,Int.max_self];exact this
theorem aiu{gs:List (List aa)}{ns:List aa}{k:Int}(hk:0≤k)(h:∀x∈ns,fb gs x=k)(hz:ns=[]→k=0):jf gs ns=(k,0):=by
 have h1:ns.any (fun x=>decide (fb gs x<0))=false:=by
  rw[List.any_eq_false];intro x hx;rw[h x hx];simp;omega
 cases ns with
 |nil=>rw[Uq h1 zS,hz rfl]
 |cons a r=>
  have e:=h a zS;have hs:=PQ k (r.map (fb gs)) (fun y hy=>by
   obtain⟨x,hx,rfl⟩:=List.mem_map.1 hy;exact h x (by simp[hx]))
  rw[Ut h1 zQ]
  ·simp[e]
  ·simp only[List.map_cons,rS,rQ,e,hs.1,hs.2];simp
open Go.Proofs Go.Proofs.Tryz
set_option maxRecDepth 20000
end Go.T
namespace Go.T
open Go
theorem Xq{s:Setup}{l:List Fact}(h:iX s l=false):kU s.insts s.oo=0∧∀f∈l,gJ f=0:=by
 simp only[iX,Bool.or_eq_false_iff,Bool.not_eq_false',decide_eq_true_eq]at h;exact⟨h.1,fun f hf=>by simpa using List.any_eq_false.1 h.2 f hf⟩
theorem anW{gs:List (List aa)}(hn:gs.flatten.Nodup){i:Nat}{g:List aa}(hi:gs[i]?=some g){x:aa}(hx:x∈g):fb gs x=i:=by
 obtain⟨bw,e⟩:=List.getElem?_eq_some_iff.1 hi;have hp:∀h:List aa,(h.any fun m=>decide (x=m))=true↔x∈h:=fun h=>by
  rw[List.any_eq_true];constructor
  ·rintro⟨m,hm,k⟩;rw[of_decide_eq_true k];exact hm
  ·intro hm;exact⟨x,hm,decide_eq_true rfl⟩
 have ad1:(gs.any fun g:List aa=>g.any fun m=>decide (x=m))=true:=List.any_eq_true.2 ⟨g,List.mem_of_getElem? hi,(hp g).2 hx⟩;unfold fb jq;rw[if_pos ad1]
 congr 1
 rw[List.findIdx_eq bw];refine⟨by rw[e];exact(hp g).2 hx,fun j hj=>?_⟩;cases k:(gs[j].any fun m=>decide (x=m))with
 |false=>rfl
 |true=>
  exfalso;have j7:=(hp _).1 k;have J9:=(List.pairwise_flatten.1 hn).2;exact List.pairwise_iff_getElem.1 J9 j i zO bw hj x j7 x (by rw[e];exact hx) rfl
theorem P'{κ β:Type}[DecidableEq κ](d:β)(k:κ)(v:β)(q:κ):∀m:List (κ×β),dU d (dN m k v) q=if q=k then v else dU d m q
 |[]=>by by_cases h:q=k<;>simp[dN,dU,h]
 |(a,u)::r=>by
  have ih:=P' d k v q r;by_cases h:k=a
  ·subst h;by_cases h2:q=k<;>simp[dN,dU,h2]
  ·simp only[dN,if_neg h,dU,ih];by_cases h2:q=a
   ·subst h2;have:q≠k:=fun e=>h e.symm;simp[this]
   ·simp[h2]
def vq(l:List aa):List (aa×Bool):=l.foldl (fun m x=>dN m x true) []
theorem Wa(l:List aa)(x:aa):vq (l++[x])=dN (vq l) x true:=by unfold vq;rw[List.foldl_append];rfl
theorem V'(l:List aa)(x:aa):dU false (vq l) x=l.any (fun y=>decide (y=x)):=by
 induction l using qL with
 |h0=>rfl
 |h1 i a ih=>
  rw[Wa,P',ih,List.any_append];by_cases h:x=a
  ·subst h;simp
  ·rw[if_neg h];have:decide (a=x)=false:=by simpa using fun e=>h e.symm
   simp[this]
theorem anN(w:World)(O:Nat→Prop)(ρ:az):V w O ρ (D.b false) (.bool false):=by simp[V,D.b]
theorem aiz(f:Nat→Bool){β:Type}(vD:β→D)(hv:∀b,(vD b).okB f=true)(m:List (aa×β)):Ob.okB f (.mp (bu D.str vD m))=true:=by
 have h:∀l:List (aa×β),D.okB.fg f (l.map fun p=>D.str p.1)=true∧D.okB.fg f (l.map fun p=>vD p.2)=true:=by
  intro l;induction l with
  |nil=>exact⟨rfl,rfl⟩
  |cons a l ih=>
   refine⟨?_,?_⟩
   ·simp only[List.map_cons,D.okB.fg,D.okB,ih.1];rfl
   ·simp only[List.map_cons,D.okB.fg,hv,ih.2];rfl
 have e1:(bu D.str vD m).map (·.1)=m.map fun p=>D.str p.1:=by simp[bu]
 have e2:(bu D.str vD m).map (·.2)=m.map fun p=>vD p.2:=by simp[bu]
 simp only[Ob.okB,e1,e2,(h m).1,(h m).2];rfl
theorem F0(f:Nat→Bool)(m:List (aa×Bool)):Ob.okB f (.mp (bu D.str D.b m))=true:=aiz f D.b (fun _=>rfl) m
open Go.Proofs Go.Proofs.Tryz
set_option maxRecDepth 20000
theorem WT{gs:List (List aa)}(h:(decide ((gs.length:Int)=0)||decide (0<((gs.headD []).length:Int)))=false):n_ gs=nR [] (gs.drop 1):=by unfold n_;rw[if_neg (by rw[h];simp)]
theorem WX{gs:List (List aa)}(h:(decide ((gs.length:Int)=0)||decide (0<((gs.headD []).length:Int)))=true):false=n_ gs:=by unfold n_;rw[if_pos h]
theorem WU{e:Bool}{seen:List aa}{x:List aa}{r:List (List aa)}(hp:e=nR seen (x::r))(h:decide ((x.length:Int)=0)=true):false=e:=by rw[hp,nR,if_pos h]
theorem WV{e:Bool}{seen:List aa}{x:List aa}{r:List (List aa)}(hp:e=nR seen (x::r))(h:decide ((x.length:Int)=0)=false)(hq:j_ seen [] x=false):false=e:=by rw[hp,nR,if_neg (by rw[h];simp),hq];rfl
theorem WW{e:Bool}{seen:List aa}{x:List aa}{r:List (List aa)}(hp:e=nR seen (x::r))(h:decide ((x.length:Int)=0)=false)(hq:j_ seen [] x=true):e=nR (seen++x) r:=by rw[hp,nR,if_neg (by rw[h];simp),hq];rfl
theorem QL{gs:List (List aa)}(h:0<gs.length):(gs.map (fun v:List aa=>[D.snap 1 false (cM v)]))[(0:Int).toNat]?=some [D.snap 1 false (cM (gs.headD []))]:=by
 cases gs with
 |nil=>simp at h
 |cons a l=>rfl
theorem abc{gs:List (List aa)}(n:Nat)(h:n=gs.length):((gs.map (fun v:List aa=>[D.snap 1 false (cM v)])).drop 1).take (n-1)=(gs.drop 1).map (fun v:List aa=>[D.snap 1 false (cM v)]):=by
 subst h;rw[←List.map_drop];exact List.take_of_length_le zS
structure anH(gs:List (List aa))where
 pre:List (List aa)
 rest:List (List aa)
 hx:gs.drop 1=pre++rest
 hp:n_ gs=nR pre.flatten rest
structure anI(gs:List (List aa))(pre:List (List aa))(x:List aa)where
 au:List aa
 aC:List aa
 aU:x=au++aC
 hq:j_ pre.flatten [] x=j_ pre.flatten au aC
theorem anG(gs:List (List aa)):Fc Tryz.prog 55 [cB gs] (.b (n_ gs)):=by
 refine Fc.mk' [2] func55 rfl ntmps55 rfl rfl rfl (fun t w=>results_tmp results55 t _ w) ?_;refine J.eu 0 rfl (fun hb=>?_);simp only[List.length_map,aG]at hb;refine J.seq (J.af [.p] ?_);refine .ag rfl rfl<|.nil ?_;refine J.seq (J.seq (J.af [.p,.p,.p,.p,.p,.p,.p,.p,.p,.p] ?_));refine .mv rfl rfl<|.P rfl (cY underlying43 rfl)<|.P rfl (jQ rfl rfl)<|.mv rfl rfl<|.gF rfl (.inl rfl) rfl rfl rfl (fun hg=>pk (fun _=>aT rfl _))<|.gF rfl (.inl rfl) rfl rfl rfl (fun hg=>pk (fun _=>gm underlying43 sizeOf48 (bh rfl (nt hg)) rfl zD (QL (List.length_pos_iff.2 (by simpa using hg))) _))<|.gF rfl (.inl rfl) rfl rfl rfl (fun hg=>pk (fun _=>bP isAgg48 (bh rfl (nt hg)) _))<|.gF rfl (.inl rfl) rfl rfl rfl (fun hg=>pk (fun _=>cY underlying48 (bh rfl (nt hg)) _))<|.gF rfl (.inl rfl) rfl rfl rfl (fun hg=>pk (fun _=>gn (bh rfl (nt hg)) rfl _))<|.P rfl (nw rfl rfl)<|.nil ?_;refine J.cond rfl (fun h1=>?_) (fun h1=>?_)
 ·refine J.seq (J.af [.p] ?_);refine .ag rfl rfl<|.nil ?_;refine J.ret (?_);exact dn rfl (Sub.bool (by exact WX (by simpa[cM]using h1)))
 ·have bJ:=h1;try simp only[bs]at bJ
  refine J.skip ?_;refine J.seq (J.af [.w,.p] ?_);refine .W rfl (mF 0 D.str (D.b) rfl)<|.ag rfl rfl<|.nil ?_;refine J.seq (J.seq (J.af [.p,.p,.p,.p] ?_));refine .mv rfl rfl<|.P rfl (oT underlying43 sizeOf48 rfl (l:=1) (h:=gs.length) (r:=(gs.drop 1).map (fun v:List aa=>[D.snap 1 false (cM v)])) (.inr ⟨_,_,rfl,rfl⟩) (.inl ⟨rfl,(List.length_map _).symm⟩) (by simp at h1;omega) zS (abc _ rfl))<|.P rfl (cY underlying43 rfl)<|.mv rfl rfl<|.nil ?_;refine J.block ?_;refine J.loop (ι:=anH gs) (fun sx=>[(3,.bR 0),(20,cB (gs.drop 1)),(21,.i (gs.drop 1).length),(22,.i sx.pre.length)]) (fun sx=>[(0,.mp (bu D.str D.b (vq sx.pre.flatten)))]) (fun sx=>sx.rest.length) ⟨[],_,rfl,WT (by simpa[cM]using h1)⟩ ?_ ?_
  ·exact Le.mk rfl (.s rfl rfl (.s rfl rfl (.cons rfl (Sub.int zS) rfl (.s rfl rfl .nil)))) (.eq rfl (by rfl) (F0 _ _) .nil)
  ·rintro⟨pre,rest,hx,hp⟩;show J _ _ _ _ [(3,.bR 0),(20,cB (gs.drop 1)),(21,.i (gs.drop 1).length),(22,.i pre.length)] [(0,.mp (bu D.str D.b (vq pre.flatten)))];have hl:=congrArg List.length hx;simp only[List.length_append]at hl;have hld:(gs.drop 1).length=gs.length-1:=List.length_drop;rcases rest with _|⟨x,rest⟩
   ·skip;refine J.seq (J.af [.p] ?_);refine .P rfl (bQ rfl rfl)<|.nil ?_;refine J.seq ?_;refine J.eF rfl (by simp at hl⊢;omega) ?_;refine J.exit (dO (dG ?_));refine J.seq (J.af [.p] ?_);refine .ag rfl rfl<|.nil ?_;refine J.ret (?_);exact dn rfl (Sub.bool (by exact hp.symm))
   ·simp only[List.length_cons]at hl;refine J.seq (J.af [.p] ?_);refine .P rfl (bQ rfl rfl)<|.nil ?_;refine J.seq ?_;refine J.gu rfl zQ ?_;refine J.skip ?_;refine J.seq ?_;refine J.block ?_;refine J.seq (J.af [.p,.p,.p] ?_);refine .P rfl (gm underlying43 sizeOf48 rfl rfl zO (aS (fun v:List aa=>[D.snap 1 false (cM v)]) hx rfl))<|.P rfl (bP isAgg48 rfl)<|.ag rfl rfl<|.nil ?_;refine J.seq (J.seq (J.af [.p,.p,.p] ?_));refine .mv rfl rfl<|.P rfl (cY underlying48 rfl)<|.P rfl (jQ rfl rfl)<|.nil ?_;refine J.cond rfl (fun h2=>?_) (fun h2=>?_)
    ·refine J.seq (J.af [.p] ?_);refine .ag rfl rfl<|.nil ?_;refine J.ret (jU (sc (jU (?_))));exact dn rfl (Sub.bool (by exact WU hp (by simpa[cM]using h2)))
    ·have lD:decide ((x.length:Int)=0)=false:=by simpa[cM]using h2
     refine J.eu 5 rfl (fun fZ=>?_);simp only[cM,List.length_map,aG]at fZ;refine J.skip ?_;refine J.seq (J.af [.p,.p,.p] ?_);refine .mv rfl rfl<|.P rfl (cY underlying48 rfl)<|.mv rfl rfl<|.nil ?_;refine J.block ?_;refine J.loop (ι:=anI gs pre x) (fun sx=>[(3,.bR 0),(5,aL x),(20,cB (gs.drop 1)),(21,.i (gs.drop 1).length),(22,.i pre.length),(29,aL x),(30,.i x.length),(31,.i sx.au.length)]) (fun sx=>[(0,.mp (bu D.str D.b (vq (pre.flatten++sx.au))))]) (fun sx=>sx.aC.length) ⟨[],x,rfl,rfl⟩ ?_ ?_
     ·exact Le.mk rfl (.s rfl rfl (.s rfl rfl (.s rfl rfl (.s rfl rfl (.s rfl rfl (.s rfl rfl (.cons rfl (Sub.int zS) rfl (.s rfl rfl .nil)))))))) (.eq rfl zS (F0 _ _) .nil)
     ·rintro⟨au,aC,aU,hq⟩;show J _ _ _ _ [(3,.bR 0),(5,aL x),(20,cB (gs.drop 1)),(21,.i (gs.drop 1).length),(22,.i pre.length),(29,aL x),(30,.i x.length),(31,.i au.length)] [(0,.mp (bu D.str D.b (vq (pre.flatten++au))))];have bN:=congrArg List.length aU;simp only[List.length_append]at bN;rcases aC with _|⟨x2,aC⟩
      ·have J_:j_ pre.flatten [] x=true:=hq;refine J.seq (J.af [.p] ?_);refine .P rfl (bQ rfl rfl)<|.nil ?_;refine J.seq ?_;refine J.eF rfl (by simp at bN⊢;omega) ?_;refine J.exit (dO (dG ?_));refine J.nil (cn ?_);refine J.af [.p,.p] ?_;refine .P rfl (bU rfl rfl (aw zO))<|.mv rfl rfl<|.nil ?_;refine J.nil (cZ ?_);exact⟨⟨pre++[x],rest,by simp[hx],by rw[List.flatten_append];simpa using WW hp lD J_⟩,by simp,Le.mk rfl (.s rfl rfl (.s rfl rfl (.s rfl rfl (.cons rfl (Sub.int zS) rfl .nil)))) (.eq rfl (by(have e9:x=au:=(by simpa using aU);subst e9;simp)) (F0 _ _) .nil)⟩
      ·simp only[List.length_cons]at bN;refine J.seq (J.af [.p] ?_);refine .P rfl (bQ rfl rfl)<|.nil ?_;refine J.seq ?_;refine J.gu rfl zQ ?_;refine J.skip ?_;refine J.seq ?_;refine J.block ?_;refine J.seq (J.af [.p,.p,.p,.p,.p] ?_);refine .mv rfl rfl<|.P rfl (gm underlying48 sizeOf9 rfl rfl zO (aS (fun s=>[D.str s]) aU rfl))<|.P rfl (bP isAgg9 rfl)<|.ag rfl rfl<|.ag rfl rfl<|.nil ?_;refine J.seq (J.seq (J.af [.p,.p,.p,.p,.p,.p,.p,.p,.p,.p,.p,.p,.p,.p,.p,.p,.p,.p,.p,.r,.p] ?_));refine .mv rfl rfl<|.P rfl (ai call86 rfl (zr _))<|.P rfl (Vx rfl)<|.mv rfl rfl<|.gF rfl (.inl rfl) rfl rfl rfl (fun hg=>pk (fun _=>aT rfl _))<|.gF rfl (.inl rfl) rfl rfl rfl (fun hg=>pk (fun _=>gn (bh rfl (nt hg)) rfl _))<|.gF rfl (.inl rfl) rfl rfl rfl (fun hg=>pk (fun _=>aT (bh rfl (nt hg)) _)) ?_;refine .nT rfl (.inl rfl) rfl rfl rfl (fun hc hg=>pk (fun _=>aT rfl _)) ?_;refine .nT rfl (.inl rfl) rfl rfl rfl (fun hc hg=>pk (fun _=>aT rfl _)) ?_;refine .nT rfl (.inl rfl) rfl rfl rfl (fun hc hg=>pk (fun _=>dw (bh rfl (bT hc hg)) rfl (aw zO) _)) ?_;refine .nT rfl (.inl rfl) rfl rfl rfl (fun hc hg=>pk (fun _=>gm underlying48 sizeOf9 (bh rfl (bT hc hg)) (bh rfl (bT hc hg)) (by have wE:=hg;simp at wE;omega) (E7 (fun s=>[D.str s]) aU (by have wE:=hg;simp at wE;omega) rfl) _)) ?_;refine .nT rfl (.inl rfl) rfl rfl rfl (fun hc hg=>pk (fun _=>bP isAgg9 (bh rfl (bT hc hg)) _)) ?_;refine .nT rfl (.inl rfl) rfl rfl rfl (fun hc hg=>pk (fun _=>aT rfl _)) ?_;refine .nT rfl (.inl rfl) rfl rfl rfl (fun hc hg=>pk (fun _=>Vp (bh rfl (bT hc hg)) (bh rfl (bT hc hg)) _)) ?_
       refine .gF rfl (.inl rfl) rfl rfl rfl (fun hg=>pk (fun _=>gO (bh rfl (nt hg)) (LC rfl (nt hg)) _))<|.P rfl (nw rfl rfl)<|.mv rfl rfl<|.gF rfl (.inl rfl) rfl rfl rfl (fun hg=>pk (fun _=>aT rfl _))<|.gF rfl (.inl rfl) rfl rfl rfl (fun hg=>pk (fun _=>aT rfl _))<|.gF rfl (.inr rfl) rfl rfl rfl (fun hg=>rk (Gj kp (vD:=D.b) (k:=x2) (d:=false) underlying137 zeroValue4 anN (bh rfl (nt hg)) (bh rfl (nt hg)) rfl rfl))<|.P rfl (nw rfl rfl)<|.nil ?_;refine J.cond rfl (fun h3=>?_) (fun h3=>?_)
       ·refine J.seq (J.af [.p] ?_);refine .ag rfl rfl<|.nil ?_;refine J.ret (jU (sc (jU (jU (sc (jU (?_)))))));exact dn rfl (Sub.bool (by exact WV hp lD (hq.trans (Kp (by have h9:=h3;rw[V']at h9;exact h9)))))
       ·refine J.skip ?_;refine J.af [.p,.p,.w] ?_;refine .mv rfl rfl<|.mv rfl rfl<|.W rfl (eD kp (vD:=D.b) (k:=x2) (v:=true) underlying137 rfl rfl rfl rfl rfl rfl)<|.nil ?_;refine J.nil (cn ?_);refine J.af [.p,.p] ?_;refine .P rfl (bU rfl rfl (aw zO))<|.mv rfl rfl<|.nil ?_;refine J.nil (cZ ?_);exact⟨⟨au++[x2],aC,by simp[aU],hq.trans (Ko (by have h9:=h3;rw[V']at h9;exact h9))⟩,by simp,Le.mk rfl (.s rfl rfl (.s rfl rfl (.s rfl rfl (.s rfl rfl (.s rfl rfl (.s rfl rfl (.s rfl rfl (.cons rfl (Sub.int zS) rfl .nil)))))))) (.eq rfl (by(rw[←List.append_assoc];exact congrArg (fun z=>Ob.mp (bu D.str D.b z)) (Wa _ _).symm)) (F0 _ _) .nil)⟩
structure ahx(a:Int)(r:List Int)where
 pre:List Int
 rest:List Int
 cur:Int
 hx:(a::r)=pre++rest
 hc:rS (a::r)=rest.foldl min cur
theorem ahw(a:Int)(r:List Int):Fc Tryz.prog 103 [.snap 1 false ((a::r).map fun n:Int=>[D.i n])] (.i (rS (a::r))):=by
 refine Fc.mk' [2] func103 rfl ntmps103 rfl rfl rfl (fun t w=>results_tmp results103 t _ w) ?_;refine J.eu 0 rfl (fun hb=>?_);simp only[List.length_map,List.length_cons,aG]at hb;refine go [] ?_;refine a_ zQ ?_;refine ix zD rfl ?_;refine J.loop (ι:=ahx a r) (fun sx=>[(0,.snap 1 false ((a::r).map fun n:Int=>[D.i n])),(3,.i sx.cur),(4,.i sx.pre.length)]) (fun sx=>[]) (fun sx=>sx.rest.length) ⟨[a],r,a,rfl,rfl⟩ ?_ ?_
 ·exact Le.mk rfl (.s rfl rfl (.s rfl rfl (.s rfl rfl .nil))) .nil
 ·rintro⟨pre,rest,cur,hx,hc⟩;show J _ _ _ _ [(0,.snap 1 false ((a::r).map fun n:Int=>[D.i n])),(3,.i cur),(4,.i pre.length)] [];have hl:=congrArg List.length hx;simp only[List.length_append]at hl;rcases rest with _|⟨x,rest⟩
  ·skip;refine go [] ?_;refine a_ (by simp at hl⊢;omega) ?_;refine go [] ?_;exact ah rfl (Sub.int (by exact hc.symm))
  ·simp only[List.length_cons]at hl;refine go [] ?_;refine bk zQ ?_;refine ix zO (aS (fun n:Int=>[D.i n]) hx rfl) ?_;refine sd (aw zO) ?_;exact nx ⟨pre++[x],rest,min cur x,by simp[hx],hc⟩ zS (Le.mk rfl (.s rfl rfl (.s rfl rfl (.cons rfl (Sub.int zS) rfl .nil))) .nil)
structure ahp(a:Int)(r:List Int)where
 pre:List Int
 rest:List Int
 cur:Int
 hx:(a::r)=pre++rest
 hc:rQ (a::r)=rest.foldl max cur
theorem aho(a:Int)(r:List Int):Fc Tryz.prog 104 [.snap 1 false ((a::r).map fun n:Int=>[D.i n])] (.i (rQ (a::r))):=by
 refine Fc.mk' [2] func104 rfl ntmps104 rfl rfl rfl (fun t w=>results_tmp results104 t _ w) ?_;refine J.eu 0 rfl (fun hb=>?_);simp only[List.length_map,List.length_cons,aG]at hb;refine go [] ?_;refine a_ zQ ?_;refine ix zD rfl ?_;refine J.loop (ι:=ahp a r) (fun sx=>[(0,.snap 1 false ((a::r).map fun n:Int=>[D.i n])),(3,.i sx.cur),(4,.i sx.pre.length)]) (fun sx=>[]) (fun sx=>sx.rest.length) ⟨[a],r,a,rfl,rfl⟩ ?_ ?_
 ·exact Le.mk rfl (.s rfl rfl (.s rfl rfl (.s rfl rfl .nil))) .nil
 ·rintro⟨pre,rest,cur,hx,hc⟩;show J _ _ _ _ [(0,.snap 1 false ((a::r).map fun n:Int=>[D.i n])),(3,.i cur),(4,.i pre.length)] [];have hl:=congrArg List.length hx;simp only[List.length_append]at hl;rcases rest with _|⟨x,rest⟩
  ·skip;refine go [] ?_;refine a_ (by simp at hl⊢;omega) ?_;refine go [] ?_;exact ah rfl (Sub.int (by exact hc.symm))
  ·simp only[List.length_cons]at hl;refine go [] ?_;refine bk zQ ?_;refine ix zO (aS (fun n:Int=>[D.i n]) hx rfl) ?_;refine sd (aw zO) ?_;exact nx ⟨pre++[x],rest,max cur x,by simp[hx],hc⟩ zS (Le.mk rfl (.s rfl rfl (.s rfl rfl (.cons rfl (Sub.int zS) rfl .nil))) .nil)
theorem aeZ(v:List aa)(x:aa):Fc Tryz.prog 102 [aL v,.bc [.str x]] (.b (v.any fun m=>decide (x=m))):=by
 refine Fc.mk' [3] func102 rfl ntmps102 rfl rfl rfl (fun t w=>results_tmp results102 t _ w) ?_;refine go [] ?_;refine oP (ai call15 rfl (ad_ _ _)) ?_;exact ah rfl (Sub.refl _)
theorem ZJ{α β:Type}(F:α→β){l:List α}(h:decide (((l.map F).length:Int)=0)=false):∃a r,l.map F=a::r:=by
 cases l with
 |nil=>simp at h
 |cons a r=>exact⟨_,_,rfl⟩
theorem anX(gs:List (List aa))(x:aa):Fc Tryz.prog 48 [cB gs,.fn (.func 102) [] [.bc [.str x]]] (.i (fb gs x)):=RJ gs _ [.bc [.str x]] rfl (fun v:List aa=>v.any fun m=>decide (x=m)) call102 (fun v _=>aeZ v x)
theorem Uu{gs:List (List aa)}{ns pre:List aa}(hx:ns=pre++[])(hp:pre.any (fun x=>decide (fb gs x<0))=false)(h:decide ((pre.length:Int)=0)=true):jf gs ns=(0,0):=by
 rw[List.append_nil]at hx;subst hx;exact Uq hp (by simpa using h)
theorem Uv{gs:List (List aa)}{ns pre:List aa}{a:Int}{r:List Int}(hx:ns=pre++[])(hp:pre.any (fun x=>decide (fb gs x<0))=false)(ov:pre.map (fb gs)=a::r)(h:decide (rS (a::r)≠rQ (a::r))=true):jf gs ns=(0,9):=by
 rw[List.append_nil]at hx;subst hx;exact Us hp (by rw[ov];simp;omega) (by rw[ov];exact h)
theorem Uw{gs:List (List aa)}{ns pre:List aa}{a:Int}{r:List Int}(hx:ns=pre++[])(hp:pre.any (fun x=>decide (fb gs x<0))=false)(ov:pre.map (fb gs)=a::r)(h:decide (rS (a::r)≠rQ (a::r))=false):jf gs ns=(a,0):=by
 rw[List.append_nil]at hx;subst hx;rw[Ut hp (by rw[ov];simp;omega) (by rw[ov];exact h),ov];rfl
structure aiw(gs:List (List aa))(f:Fact)where
 pre:List aa
 rest:List aa
 hx:(cC f)=pre++rest
 hp:pre.any (fun x=>decide (fb gs x<0))=false
theorem aiv(gs:List (List aa))(f:Fact)(hn:f.opts.length≤1000000)(hs:∀s∈eV f,dj s):Fc Tryz.prog 56 [cB gs,.agg (aX f)] (.bj [.i (jf gs (cC f)).1,.i (jf gs (cC f)).2]):=by
 refine Fc.mk' [4,5] func56 rfl ntmps56 rfl rfl rfl (fun t w=>results_tmp2 results56 t _ w) ?_;refine go [5,12] ?_;refine oP (ai call25 rfl (RV f hn hs)) ?_;refine J.loop (ι:=aiw gs f) (fun sx=>[(0,cB gs),(6,.gs 1 sx.pre.length),(11,aL (cC f)),(12,.i (cC f).length),(13,.i sx.pre.length)]) (fun sx=>[(1,.arr 1 ((sx.pre.map (fb gs)).map fun n:Int=>[D.i n]))]) (fun sx=>sx.rest.length) ⟨[],_,rfl,rfl⟩ ?_ ?_
 ·exact(Le.jy 1 1).trans<|Le.mk rfl (.s rfl rfl (.cons rfl (Sub.wm _) rfl (.s rfl rfl (.cons rfl (Sub.int zS) rfl (.s rfl rfl .nil))))) (.arr rfl (by rfl) .nil)
 ·rintro⟨pre,rest,hx,hp⟩;show J _ _ _ _ [(0,cB gs),(6,.gs 1 pre.length),(11,aL (cC f)),(12,.i (cC f).length),(13,.i pre.length)] [(1,.arr 1 ((pre.map (fb gs)).map fun n:Int=>[D.i n]))];have hl:=congrArg List.length hx;simp only[List.length_append]at hl;rcases rest with _|⟨x,rest⟩
  ·skip;refine go [5,12] ?_;refine a_ (by simp at hl⊢;omega) ?_;refine go [5,12] ?_;refine br (fun h1=>?_) (fun h1=>?_)
   ·exact fu rfl rfl (Sub.int (by rw[Uu hx hp h1])) (Sub.int (by rw[Uu hx hp h1]))
   ·obtain⟨a,r,ov⟩:=ZJ (fb gs) (l:=pre) (by simpa using h1);have j3:r.length+1=pre.length:=by have:=congrArg List.length ov;simpa using this.symm
    rw[ov];refine J.bE (Le.freeze 6 1 rfl rfl zQ) ?_;refine J.af [.p,.p,.p,.p,.p] ?_;refine .mv rfl rfl<|.P rfl (ai call103 rfl (ahw a r))<|.mv rfl rfl<|.P rfl (ai call104 rfl (aho a r))<|.P rfl (z6 rfl rfl)<|.nil ?_;refine go [5,12] ?_;refine br (fun h2=>?_) (fun h2=>?_)
    ·exact fu rfl rfl (Sub.int (by rw[Uv hx hp ov h2])) (Sub.int (by rw[Uv hx hp ov h2]))
    ·refine ix zD rfl ?_;exact fu rfl rfl (Sub.int (by rw[Uw hx hp ov h2])) (Sub.int (by rw[Uw hx hp ov h2]))
  ·simp only[List.length_cons]at hl;have ET:=wR f;refine J.eu 11 rfl (fun hb=>?_);simp only[List.length_map,aG]at hb;refine go [5,12] ?_;refine bk zQ ?_;refine ix zO (aS (fun s=>[D.str s]) hx rfl) ?_;refine J.bE (Le.fY 8 0 rfl rfl rfl rfl) ?_;refine go [12] ?_;refine oP (ai call48 rfl (anX gs x)) ?_;refine br (fun h3=>?_) (fun h3=>?_)
   ·exact fu rfl rfl (Sub.int (by rw[Lv hx h3])) (Sub.int (by rw[Lv hx h3]))
   ·refine oP (p6 underlying25 sizeOf3 zeroValue3 rfl rfl rfl rfl rfl) ?_;refine oW (fq 2 underlying25 underlying25 sizeOf3 typeInfo3 zeroValue3 rfl (bt:=8) rfl rfl rfl rfl zS rfl rfl zQ) ?_;refine go [5,12] ?_;refine sd (aw zO) ?_;exact nx ⟨pre++[x],rest,by simp[hx],by rw[List.any_append,hp];simpa using h3⟩ zS ((Le.mk (am:=[(2,_)]) rfl (show dE _ _ [(0,_),(6,_),(11,_),(12,_),(13,_)]from(.s rfl rfl (.s rfl rfl (.s rfl rfl (.s rfl rfl (.s rfl rfl .nil)))))) (.cons (i:=2) rfl rfl .nil)).trans<|(Le.kO 6 2 1 rfl rfl zS rfl).trans<|Le.mk rfl (.s rfl rfl (.cons rfl (Sub.gs zS) rfl (.s rfl rfl (.s rfl rfl (.cons rfl (Sub.int zS) rfl .nil))))) (.arr rfl zS .nil))
end Go.T
namespace Go.T
open Go
def gM(s:aa):List aa→List aa
 |[]=>[s]
 |a::r=>if aa.lt a s=true then a::gM s r else if decide (a=s)=true then a::r else s::a::r
theorem FB{s x:aa}:∀{l:List aa},x∈gM s l↔x=s∨x∈l
 |[]=>by simp[gM]
 |a::r=>by
  unfold gM;split
  ·rw[List.mem_cons,FB,List.mem_cons];exact or_left_comm
  ·split
   ·rename_i _ h;obtain rfl:=of_decide_eq_true h;simp
   ·exact List.mem_cons
@[reducible] def ia(l:List aa):Prop:=l.Pairwise fun a b=>aa.lt a b=true
theorem ag9{a b:aa}(h:aa.lt a b=false)(hn:a≠b):aa.lt b a=true:=by
 refine Sz ?_ (fun e=>hn e.symm);have:¬a<b:=by rw[←rN,h];simp
 exact List.not_lt.1 this
theorem Hn{s:aa}:∀{l:List aa},ia l→ia (gM s l)
 |[],_=>by simp[gM,ia]
 |a::r,h=>by
  have h1:=List.pairwise_cons.1 h;unfold gM;split
  ·rename_i g;refine List.pairwise_cons.2 ⟨fun x hx=>?_,Hn h1.2⟩;rcases FB.1 hx with rfl|hx
   ·exact g
   ·exact h1.1 x hx
  ·split
   ·exact h
   ·rename_i g1 g2;have hl:aa.lt s a=true:=ag9 (by simpa using g1) (by simpa using g2);refine List.pairwise_cons.2 ⟨fun x hx=>?_,h⟩;rcases List.mem_cons.1 hx with rfl|hx
    ·exact hl
    ·exact KJ hl (h1.1 x hx)
theorem Fl{s:aa}:∀{l:List aa},(gM s l).length≤l.length+1
 |[]=>by simp[gM]
 |a::r=>by
  unfold gM;split
  ·simpa using Fl (l:=r)
  ·split<;>simp
def eJ(one ns:List aa):List aa:=ns.foldl (fun l s=>gM s l) one
@[simp] theorem ars(one:List aa):eJ one []=one:=rfl
theorem K6{x:aa}:∀{ns one:List aa},x∈eJ one ns↔x∈one∨x∈ns
 |[],one=>by simp[eJ]
 |a::r,one=>by
  rw[show eJ one (a::r)=eJ (gM a one) r from rfl,K6,FB,List.mem_cons];constructor
  ·rintro((h|h)|h)
   ·exact .inr (.inl h)
   ·exact .inl h
   ·exact .inr (.inr h)
  ·rintro(h|h|h)
   ·exact .inl (.inr h)
   ·exact .inl (.inl h)
   ·exact .inr h
theorem Hm:∀{ns one:List aa},ia one→ia (eJ one ns)
 |[],_,h=>h
 |_::r,_,h=>Hm (ns:=r) (Hn h)
theorem y9:∀{ns one:List aa},(eJ one ns).length≤one.length+ns.length
 |[],_=>Nat.le_refl _
 |a::r,one=>by
  have h1:=y9 (ns:=r) (one:=gM a one);have h2:=Fl (s:=a) (l:=one);rw[show eJ one (a::r)=eJ (gM a one) r from rfl,List.length_cons];omega
theorem RL(one ns:List aa)(x:aa):eJ one (ns++[x])=gM x (eJ one ns):=by unfold eJ;rw[List.foldl_append];rfl
@[reducible] def rn(l:List aa)(s:aa):Bool:=l.any fun y=>decide (y=s)
@[reducible] def k7(ns g:List aa):Bool:=g.any (rn ns)
theorem TG{ns g:List aa}:k7 ns g=true↔∃x∈g,x∈ns:=by
 simp only[k7,rn,List.any_eq_true,decide_eq_true_eq];constructor
 ·rintro⟨x,hx,y,hy,rfl⟩;exact⟨_,hx,hy⟩
 ·rintro⟨x,hx,hy⟩;exact⟨x,hx,x,hy,rfl⟩
def gi(gs:List (List aa))(ns one:List aa):List aa:=(gs.filter (k7 ns)).foldl eJ one
@[reducible] def gG(gs:List (List aa))(ns:List aa):List (List aa):=gs.filter fun g=>!k7 ns g
def kf(gs:List (List aa))(ns:List aa):List (List aa):=
 gG gs ns++(if decide (0<((gi gs ns (eJ [] ns)).length:Int))=true then[gi gs ns (eJ [] ns)]else[])
theorem aiE{gs:List (List aa)}{ns one g:List aa}(h:k7 ns g=true):gi (gs++[g]) ns one=eJ (gi gs ns one) g:=by
 unfold gi;rw[List.filter_append,List.filter_cons_of_pos h,List.foldl_append];rfl
theorem aiD{gs:List (List aa)}{ns one g:List aa}(h:k7 ns g=false):gi (gs++[g]) ns one=gi gs ns one:=by
 unfold gi;rw[List.filter_append,List.filter_cons_of_neg (by rw[h];simp)];simp
theorem R_{gs:List (List aa)}{ns g:List aa}(h:k7 ns g=true):gG (gs++[g]) ns=gG gs ns:=by
 unfold gG;rw[List.filter_append,List.filter_cons_of_neg (by rw[h];simp)];simp
theorem R9{gs:List (List aa)}{ns g:List aa}(h:k7 ns g=false):gG (gs++[g]) ns=gG gs ns++[g]:=by
 unfold gG;rw[List.filter_append,List.filter_cons_of_pos (by rw[h];rfl)];rfl
theorem TC{x:aa}:∀{L:List (List aa)}{one:List aa},x∈L.foldl eJ one↔x∈one∨∃g∈L,x∈g
 |[],one=>by simp
 |a::r,one=>by
  rw[List.foldl_cons,TC,K6];constructor
  ·rintro((h|h)|⟨g,h1,h2⟩)
   ·exact .inl h
   ·exact .inr ⟨a,List.mem_cons_self,h⟩
   ·exact .inr ⟨g,List.mem_cons_of_mem _ h1,h2⟩
  ·rintro(h|⟨g,h1,h2⟩)
   ·exact .inl (.inl h)
   ·rcases List.mem_cons.1 h1 with rfl|h1
    ·exact .inl (.inr h2)
    ·exact .inr ⟨g,h1,h2⟩
theorem Ns:∀{L:List (List aa)}{one:List aa},ia one→ia (L.foldl eJ one)
 |[],_,h=>h
 |_::r,_,h=>Ns (L:=r) (Hm h)
theorem B8{gs:List (List aa)}{ns:List aa}{x:aa}:x∈gi gs ns (eJ [] ns)↔x∈ns∨∃g∈gs,k7 ns g=true∧x∈g:=by
 unfold gi;rw[TC,K6];simp only[List.not_mem_nil,false_or,List.mem_filter,and_assoc]
theorem Nu(gs:List (List aa))(ns:List aa):ia (gi gs ns (eJ [] ns)):=Ns (Hm List.Pairwise.nil)
theorem Fm(ns:List aa):∀(gs:List (List aa))(one:List aa),(gG gs ns).flatten.length+(gi gs ns one).length≤gs.flatten.length+one.length
 |[],one=>by simp[gi,gG]
 |g::r,one=>by
  by_cases h:k7 ns g=true
  ·have h1:=Fm ns r (eJ one g);have h2:=y9 (ns:=g) (one:=one);have e1:gi (g::r) ns one=gi r ns (eJ one g):=by unfold gi;rw[List.filter_cons_of_pos h];rfl
   have e2:gG (g::r) ns=gG r ns:=by unfold gG;rw[List.filter_cons_of_neg (by rw[h];simp)]
   rw[e1,e2,List.flatten_cons,List.length_append];omega
  ·have h1:=Fm ns r one;have h:k7 ns g=false:=by simpa using h
   have e1:gi (g::r) ns one=gi r ns one:=by unfold gi;rw[List.filter_cons_of_neg (by rw[h];simp)]
   have e2:gG (g::r) ns=g::gG r ns:=by unfold gG;rw[List.filter_cons_of_pos (by rw[h];rfl)]
   rw[e1,e2,List.flatten_cons,List.flatten_cons,List.length_append,List.length_append];omega
theorem SF(gs:List (List aa))(ns:List aa):(kf gs ns).flatten.length≤gs.flatten.length+ns.length∧(kf gs ns).length≤gs.length+1:=by
 have h1:=Fm ns gs (eJ [] ns);have h2:=y9 (ns:=ns) (one:=[]);have h3:(gG gs ns).length≤gs.length:=List.length_filter_le _ _;unfold kf;constructor
 ·rw[List.flatten_append,List.length_append];split
  ·simp only[List.flatten_cons,List.flatten_nil,List.append_nil];simp only[List.length_nil]at h2;omega
  ·simp only[List.flatten_nil,List.length_nil]at h2⊢;omega
 ·rw[List.length_append];split
  ·simp;omega
  ·simp;omega
structure ph(Ls gs:List (List aa)):Prop where
 ne:∀g∈gs,g≠[]
 Hl:∀g∈gs,ia g
 nd:gs.flatten.Nodup
 Ks:∀r∈Ls,r≠[]→∃g∈gs,∀x∈r,x∈g
 DJ:∀g∈gs,∀x∈g,∀y∈g,fK Ls x y
 FK:∀g∈gs,∀x∈g,named Ls x
theorem PK{a b:List (List aa)}(h:a.Sublist b):a.flatten.Sublist b.flatten:=by
 induction h with
 |slnil=>exact List.Sublist.refl _
 |cons x _ ih=>rw[List.flatten_cons];exact ih.trans (List.sublist_append_right _ _)
 |cons_cons x _ ih=>rw[List.flatten_cons,List.flatten_cons];exact ih.append_left _
theorem adU:ph [] []:=⟨by simp,by simp,by simp,by simp,by simp,by simp⟩
theorem Ho{l:List aa}(h:ia l):l.Nodup:=h.imp fun h=>KI h
theorem R6{Ls gs iY:List (List aa)}{ns:List aa}(h:ph Ls gs)(hL:∀r,r∈iY↔r=ns∨r∈Ls):ph iY (kf gs ns):=by
 have cU:∀{x y:aa},fK Ls x y→fK iY x y:=fun hc=>hc.mono fun l hl=>⟨l,(hL l).2 (.inr hl),fun _=>id⟩;have nU:∀{x:aa},named Ls x→named iY x:=fun⟨l,hl,hx⟩=>⟨l,(hL l).2 (.inr hl),hx⟩;have Bq:ns∈iY:=(hL ns).2 (.inl rfl)
 -- every name of the new group hangs together with one of the names
 have o0:∀x∈gi gs ns (eJ [] ns),(∃z∈ns,fK iY x z)∧named iY x:=by
  intro x hx;rcases B8.1 hx with hx|⟨g,hg,hm,hx⟩
  ·exact⟨⟨x,hx,.refl x⟩,ns,Bq,hx⟩
  ·obtain⟨z,hz,hzn⟩:=TG.1 hm;exact⟨⟨z,hzn,cU (h.DJ g hg x hx z hz)⟩,nU (h.FK g hg x hx)⟩
 have mem:∀g,g∈kf gs ns↔(g∈gs∧k7 ns g=false)∨(g=gi gs ns (eJ [] ns)∧g≠[]):=by
  intro g;unfold kf;rw[List.mem_append,List.mem_filter];refine or_congr zS ?_;generalize gi gs ns (eJ [] ns)=one;cases one with
  |nil=>simp
  |cons a r=>rw[if_pos zS];simp only[List.mem_singleton];exact⟨fun e=>⟨e,by rw[e];simp⟩,(·.1)⟩
 have aG:∀g∈gs,k7 ns g=true→∀x∈g,x∈gi gs ns (eJ [] ns):=fun g hg hm x hx=>B8.2 (.inr ⟨g,hg,hm,hx⟩);refine⟨fun g hg=>?_,fun g hg=>?_,?_,fun r hr aD=>?_,fun g hg x hx y hy=>?_,fun g hg x hx=>?_⟩
 ·rcases(mem g).1 hg with⟨h1,_⟩|⟨_,h2⟩
  ·exact h.ne g h1
  ·exact h2
 ·rcases(mem g).1 hg with⟨h1,_⟩|⟨rfl,_⟩
  ·exact h.Hl g h1
  ·exact Nu gs ns
 ·unfold kf;rw[List.flatten_append,List.nodup_append];refine⟨?_,?_,?_⟩
  ·exact h.nd.sublist (PK List.filter_sublist)
  ·split
   ·simpa using Ho (Nu gs ns)
   ·simp
  ·rintro x hx y hy rfl;obtain⟨g,hg,RB⟩:=List.mem_flatten.1 hx;obtain⟨hg,hm⟩:=List.mem_filter.1 hg;have hm:k7 ns g=false:=by simpa using hm
   have BG:x∈gi gs ns (eJ [] ns):=by
    split at hy
    ·simpa using hy
    ·simp at hy
   rcases B8.1 BG with hn|⟨g',kZ,Bm,aeX⟩
   ·rw[TG.2 ⟨x,RB,hn⟩]at hm;cases hm
   ·rw[Eg h.nd hg kZ RB aeX,Bm]at hm;cases hm
 ·rcases(hL r).1 hr with rfl|hr
  ·obtain⟨a,ha⟩:=List.exists_mem_of_ne_nil _ aD;refine⟨_,(mem _).2 (.inr ⟨rfl,List.ne_nil_of_mem (B8.2 (.inl ha))⟩),fun x hx=>B8.2 (.inl hx)⟩
  ·obtain⟨g,hg,dX⟩:=h.Ks r hr aD;cases hm:k7 ns g with
   |false=>exact⟨g,(mem g).2 (.inl ⟨hg,hm⟩),dX⟩
   |true=>
    obtain⟨a,ha⟩:=List.exists_mem_of_ne_nil _ aD;exact⟨_,(mem _).2 (.inr ⟨rfl,List.ne_nil_of_mem (aG g hg hm a (dX a ha))⟩),fun x hx=>aG g hg hm x (dX x hx)⟩
 ·rcases(mem g).1 hg with⟨h1,_⟩|⟨rfl,_⟩
  ·exact cU (h.DJ g h1 x hx y hy)
  ·obtain⟨⟨z,hz,c1⟩,_⟩:=o0 x hx;obtain⟨⟨z',pJ,c2⟩,_⟩:=o0 y hy;exact(c1.trans (.one Bq hz pJ)).trans c2.symm
 ·rcases(mem g).1 hg with⟨h1,_⟩|⟨rfl,_⟩
  ·exact nU (h.FK g h1 x hx)
  ·exact(o0 x hx).2
theorem adT{Ls gs out:List (List aa)}(h:ph Ls gs)(hp:out.Perm gs)(hh:(out.map (·.headD [])).Pairwise fun a b=>a≤b):lu Ls=out:=by
 have mp:∀g,g∈out↔g∈gs:=fun g=>hp.mem_iff;have hd:∀g∈gs,g.headD []∈g:=fun g hg=>by
  cases g with
  |nil=>exact absurd rfl (h.ne _ hg)
  |cons a r=>exact List.mem_cons_self
 refine Ja (fun g hg=>h.ne g ((mp g).1 hg)) (fun g hg=>(h.Hl g ((mp g).1 hg)).imp fun k=>List.le_of_lt ((rN _ _).1 k)) (hp.flatten.nodup_iff.2 h.nd) hh (fun r hr aD=>?_) (fun g hg x hx=>?_)
 ·obtain⟨g,hg,k⟩:=h.Ks r hr aD;exact⟨g,(mp g).2 hg,k⟩
 ·have hg:=(mp g).1 hg;exact⟨h.DJ g hg _ (hd g hg) x hx,h.FK g hg x hx⟩
theorem ake:e7 c6=([],[49]):=by decide+kernel
theorem YU{f:aM}(h:g_ f=0):f=cw (val (e7 f).1) (val (e7 f).2):=by
 rw[Fv];unfold g_ at h;by_cases k:f=cw (val (bH f).1) (val (bH f).2)
 ·exact k
 ·rw[if_neg k]at h;cases h
theorem Gm{f:aM}(h:g_ f=0):jz f c6=sg f:=by
 have e1:jz f c6=fw (val (e7 f).1):=by
  unfold jz;rw[ake,r2,gp,gp];show fw (val (e7 f).1*val [49]-val []*val (e7 f).2)=_;rw[ua,val_one,Int.mul_one,Int.zero_mul,Int.sub_zero]
 have e2:=Wf (n:=val (e7 f).1) (CI f);rw[←YU h]at e2;rw[e1,←e2];rfl
@[reducible] def w_(f:aM):Bool:=!decide ([f.num,f.den]=[[],[]])
theorem FU{f:aM}(h:g_ f=0):w_ f=decide (sg f≠0):=by
 unfold w_;rw[Ek,←Gm h,Bool.eq_iff_iff];simp only[Bool.not_eq_true',decide_eq_false_iff_not,decide_eq_true_eq,ne_eq,HG h]
def K9(m:Int):Bool:=decide (m=1)||decide (m=2)||decide (m=3)||decide (m=4)||decide (m=6)||decide (m=12)
def BM(i:aW):Int:=if(w_ i.fk||w_ i.fh||decide (i.qC≠0)||decide (i.count≠0))=true then 1 else 0
def Hz(i:aW):Int:=if(decide (jz i.fk c6≤0)||decide (jz i.fh c6<0)||!K9 i.qC||decide (i.count<1)||decide (5<i.count))=true then 2 else if(decide (i.other≠[])||w_ i.e_)=true then 1 else 0
def IU(i:aW):Int:=if(!fF i.other||decide (i.other=i.cur))=true then 12 else if decide (jz i.e_ c6≤0)=true then 2 else BM i
def y6(i:aW):Int:=if decide (i.kind=2)=true then Hz i else if decide (i.kind=5)=true then IU i else if(decide (i.other≠[])||w_ i.e_)=true then 1 else BM i
theorem afN{a b:Bool}:(if a=true then(1:Int)else if b=true then 1 else 0)=if(a||b)=true then 1 else 0:=by cases a<;>cases b<;>rfl
theorem af6{i:aW}(h1:g_ i.fk=0)(h2:g_ i.fh=0)(h3:g_ i.e_=0):y6 i=vo i.kind i:=by
 have eb:Hz i=Dy i:=by
  unfold Hz Dy ND NF;rw[Gm h1,Gm h2,FU h3,show K9 i.qC=[1,2,3,4,6,12].any (fun n=>decide (i.qC=n)) by simp[K9,Bool.or_assoc]]
 have el:BM i=if Eo i=true then 1 else 0:=by unfold BM Eo;rw[FU h1,FU h2]
 have ef:IU i=Ep i:=by unfold IU Ep;rw[Gm h3,el]
 have ep:(if(decide (i.other≠[])||w_ i.e_)=true then 1 else BM i)=Gb i:=by
  rw[el,afN,FU h3];unfold Gb U9 Eo
  congr 2
  cases decide (sg i.fk≠0)<;>cases decide (sg i.fh≠0)<;>cases decide (i.qC≠0)<;>cases decide (i.count≠0)<;>cases decide (sg i.e_≠0)<;>cases decide (i.other≠[])<;>rfl
 unfold y6 vo;rw[eb,ef,ep];simp only[decide_eq_true_eq]
@[reducible] def HT(d:Int):Bool:=decide (d< -25567)||decide (84005<d)
@[reducible] def DN(d:Int):Int:=if HT d=true then 13 else 0
def K2(i:aW):Bool:=decide (i.rP=0)&&(decide (i.kind=2)||decide (i.kind=5))||decide (i.rP≠0)&&(decide (DN i.rP≠0)||decide (i.rP≤i.wS))
def qv(i:aW):Int:=
 if(!isName i.id)=true then 23 else if(decide (i.kind<1)||decide (5<i.kind))=true then 7 else if(!fF i.cur)=true then 12
 else if(decide (i.places<0)||decide (12<i.places))=true then 2 else if decide (DN i.wS≠0)=true then 13 else if K2 i=true then 13 else iU (y6 i) [i.fk,i.fh,i.e_]
theorem Oe(d:Int):decide (DN d≠0)=!xI d:=by
 have:HT d=!xI d:=by
  unfold HT xI;rw[Bool.eq_iff_iff];simp only[Bool.or_eq_true,decide_eq_true_eq,Bool.not_eq_true',Bool.and_eq_false_iff,decide_eq_false_iff_not];omega
 unfold DN;rw[this];cases xI d<;>rfl
theorem Ul{d d':Int}:∀(l:List aM),((∀f∈l,jw f=0)→d=d')→iU d l=iU d' l
 |[],h=>h (fun _ h=>by cases h)
 |f::r,h=>by
  unfold iU;split
  ·rfl
  ·rename_i k;refine Ul r fun hr=>h fun x hx=>?_;rcases List.mem_cons.1 hx with rfl|hx
   ·simpa using k
   ·exact hr x hx
theorem Lr{f:aM}(h:jw f=0):g_ f=0:=by
 unfold jw at h;by_cases k:g_ f=0
 ·exact k
 ·rw[if_pos (decide_eq_true k)]at h;cases h
theorem afp(i:aW):qv i=kc i:=by
 unfold qv kc;rw[Oe,Ul (d':=vo i.kind i) [i.fk,i.fh,i.e_] (fun h=>af6 (Lr (h _ zS)) (Lr (h _ zS)) (Lr (h _ zS))),
  show K2 i=K1 i by unfold K2 K1 yb;rw[Oe,Bool.or_comm]]
theorem ahS{e d:Int}{rest:List aM}{x:aM}(h:e=iU d (x::rest))(k:decide (jw x≠0)=true):jw x=e:=by rw[h,iU,if_pos k]
theorem ahR{e d:Int}{rest:List aM}{x:aM}(h:e=iU d (x::rest))(k:decide (jw x≠0)=false):e=iU d rest:=by rw[h,iU,if_neg (by rw[k];simp)]
theorem rV{e:Int}{i:aW}{r:Int}(h:e=iU (y6 i) [])(k:r=y6 i):r=e:=k.trans h.symm
theorem ZY{pre:List bA}{c:bA}(h:(!fF c.code)=false)(h2:(decide (c.places<0)||decide (12<c.places))=false)(h3:pre.any (fun d=>decide (d.code=c.code))=true):l8 pre c=5:=by simp only[l8,h,h2,h3];rfl
theorem ZX{pre:List bA}{c:bA}(h:(!fF c.code)=false)(h2:(decide (c.places<0)||decide (12<c.places))=false)(h3:pre.any (fun d=>decide (d.code=c.code))=false):l8 pre c=0:=by simp only[l8,h,h2,h3];rfl
theorem ahv{α:Type}{l pre au aC q:List α}{y:α}(h:l=pre++q)(h2:pre=au++y::aC):l=au++y::(aC++q):=by rw[h,h2];simp
theorem acJ{α:Type}{P:α→Bool}{l pre rest:List α}{x:α}(hx:l=pre++x::rest)(hp:pre.any P=false)(h:P x=true):(pre.length:Int)=max (jq P l) 0:=by
 have:(pre.length:Int)=jq P l:=sN hx hp h;omega
theorem acI{α:Type}{P:α→Bool}{l pre:List α}(hx:l=pre++[])(hp:pre.any P=false):(0:Int)=max (jq P l) 0:=by
 have:(-1:Int)=jq P l:=sM hx hp;omega
@[reducible] def uB(t:List bA)(c:aa):Bool:=t.any fun y=>decide (y.code=c)
theorem Sk(i:aW)(t:List bA):BL i t=if(!uB t i.cur||(decide (i.kind=5)&&!uB t i.other))=true then 12 else 0:=by
 unfold BL ll uB;by_cases h:i.kind=5
 ·rw[if_pos h];simp only[List.any_cons,List.any_nil,Bool.or_false,Ee,h,decide_true,Bool.true_and]
 ·rw[if_neg h];simp only[List.any_cons,List.any_nil,Bool.or_false,Ee,h,decide_false,Bool.false_and]
theorem IL{l pre rest:List aW}{x:aW}(hx:l=pre++x::rest):decide (max (jq (fun y=>decide (y.id=x.id)) l) 0<(pre.length:Int))=pre.any fun y=>decide (y.id=x.id):=by
 have ha:l.any (fun y=>decide (y.id=x.id))=true:=nD hx zS;unfold jq;rw[if_pos ha,hx,List.findIdx_append,Bool.eq_iff_iff,decide_eq_true_eq,List.any_eq_true];rw[←List.findIdx_lt_length];split
 ·rename_i k;omega
 ·rename_i k;omega
theorem afq{pre:List aW}{x:aW}{t:List bA}(h:decide (kc x≠0)=false)(h2:pre.any (fun y=>decide (y.id=x.id))=false)(h3:(!uB t x.cur||(decide (x.kind=5)&&!uB t x.other))=true):pK pre x t=12:=by
 rw[Fa h h2,Sk,if_pos h3]
theorem afr{pre:List aW}{x:aW}{t:List bA}(h:decide (kc x≠0)=false)(h2:pre.any (fun y=>decide (y.id=x.id))=false)(h3:(!uB t x.cur||(decide (x.kind=5)&&!uB t x.other))=false):pK pre x t=0:=by
 rw[Fa h h2,Sk,if_neg (by rw[h3];simp)]
def gU(l:List aa)(s:aa):List aa:=if decide (s=[])=true then l else gM s l
def rX(f:Fact):List aa:=f.opts.foldl (fun l o=>gU l o.other) (if uW f=true then gU (gU [] f.dM) f.other else gU [] f.dM)
theorem FC{l:List aa}{s x:aa}:x∈gU l s↔(x=s∧x≠[])∨x∈l:=by
 unfold gU;by_cases h:s=[]
 ·rw[if_pos (decide_eq_true h),h];constructor
  ·exact .inr
  ·rintro(⟨a,b⟩|a)
   ·exact absurd a b
   ·exact a
 ·rw[if_neg (by simpa using h),FB];constructor
  ·rintro(rfl|a)
   ·exact .inl ⟨rfl,h⟩
   ·exact .inr a
  ·rintro(⟨a,b⟩|a)
   ·exact .inl a
   ·exact .inr a
def oY(done:Bool)(s:aa)(rest:List aa):List aa:=if done=true then rest else gM s rest
theorem WO{done:Bool}{s x:aa}{r:List aa}(h:(!done&&!aa.lt x s)=true)(h2:decide (x≠s)=true):oY done s (x::r)=s::x::oY true s r:=by
 rw[Bool.and_eq_true]at h;have hd:done=false:=by simpa using h.1
 have hl:aa.lt x s=false:=by simpa using h.2
 subst hd;unfold oY;rw[if_neg zS,gM,if_neg (by rw[hl];simp),if_neg (by simpa using h2)];rfl
theorem anq{done:Bool}{s x:aa}{r:List aa}(h:(!done&&!aa.lt x s)=true)(h2:decide (x≠s)=false):oY done s (x::r)=x::oY true s r:=by
 rw[Bool.and_eq_true]at h;have hd:done=false:=by simpa using h.1
 have hl:aa.lt x s=false:=by simpa using h.2
 subst hd;unfold oY;rw[if_neg zS,gM,if_neg (by rw[hl];simp),if_pos (by simpa using h2)];rfl
theorem anr{done:Bool}{s x:aa}{r:List aa}(h:(!done&&!aa.lt x s)=false):oY done s (x::r)=x::oY done s r:=by
 unfold oY;cases done with
 |true=>rfl
 |false=>
  have hl:aa.lt x s=true:=by simpa using h
  rw[if_neg zS,if_neg zS,gM,if_pos hl]
theorem ans{done:Bool}{s:aa}(h:(!done)=true):oY done s []=[s]:=by
 have hd:done=false:=by simpa using h
 subst hd;rfl
theorem ant{done:Bool}{s:aa}(h:(!done)=false):oY done s []=[]:=by
 have hd:done=true:=by simpa using h
 subst hd;rfl
theorem Dw{l:List aa}{s:aa}(h:ia l):ia (gU l s):=by
 unfold gU;split
 ·exact h
 ·exact Hn h
theorem y_{l:List aa}{s:aa}:(gU l s).length≤l.length+1:=by
 unfold gU;split
 ·omega
 ·exact Fl
theorem ahX{f:Fact}(h:uW f=true):rX f=f.opts.foldl (fun l o=>gU l o.other) (gU (gU [] f.dM) f.other):=by unfold rX;rw[if_pos h]
theorem ahW{f:Fact}(h:uW f=false):rX f=f.opts.foldl (fun l o=>gU l o.other) (gU [] f.dM):=by unfold rX;rw[if_neg (by rw[h];simp)]
theorem TD{x:aa}:∀(os:List cT)(l:List aa),x∈os.foldl (fun l o=>gU l o.other) l↔(x∈os.map (·.other)∧x≠[])∨x∈l
 |[],l=>by simp
 |o::r,l=>by
  rw[List.foldl_cons,TD r,FC,List.map_cons,List.mem_cons];constructor
  ·rintro(⟨a,b⟩|⟨a,b⟩|a)
   ·exact .inl ⟨.inr a,b⟩
   ·exact .inl ⟨.inl a,b⟩
   ·exact .inr a
  ·rintro(⟨a|a,b⟩|a)
   ·exact .inr (.inl ⟨a,b⟩)
   ·exact .inl ⟨a,b⟩
   ·exact .inr (.inr a)
theorem Nt:∀(os:List cT){l:List aa},ia l→ia (os.foldl (fun l o=>gU l o.other) l)
 |[],_,h=>h
 |_::r,_,h=>Nt r (Dw h)
theorem Hp:ia []:=List.Pairwise.nil
theorem ahr{f:Fact}{x:aa}:x∈rX f↔x∈eV f∧x≠[]:=by
 unfold rX eV gL;rw[TD,List.mem_append];by_cases h:uW f=true
 ·rw[if_pos h,if_pos h,FC,FC];simp only[List.not_mem_nil,or_false,List.mem_append,List.mem_singleton];constructor
  ·rintro(⟨a,b⟩|⟨a,b⟩|⟨a,b⟩)
   ·exact⟨.inr a,b⟩
   ·exact⟨.inl (.inr a),b⟩
   ·exact⟨.inl (.inl a),b⟩
  ·rintro⟨(a|a)|a,b⟩
   ·exact .inr (.inr ⟨a,b⟩)
   ·exact .inr (.inl ⟨a,b⟩)
   ·exact .inl ⟨a,b⟩
 ·rw[if_neg h,if_neg h,FC];simp only[List.not_mem_nil,or_false,List.mem_singleton];constructor
  ·rintro(⟨a,b⟩|⟨a,b⟩)
   ·exact⟨.inr a,b⟩
   ·exact⟨.inl a,b⟩
  ·rintro⟨a|a,b⟩
   ·exact .inr ⟨a,b⟩
   ·exact .inl ⟨a,b⟩
theorem Yj(f:Fact):ia (rX f):=by
 unfold rX;refine Nt _ ?_;split
 ·exact Dw (Dw Hp)
 ·exact Dw Hp
theorem Nr{l:List aa}(h:l.Pairwise fun a b=>a≤b):∀m,m≤l.length→ia (Lib.compactUpTo l.toArray m)
 |0,_=>by simp[Lib.compactUpTo,ia]
 |m+1,hm=>by
  rw[Lib.compactUpTo_succ];have ih:=Nr h m zO;have hg:∀j,j<l.length→l.toArray[j]! =l[j]!:=fun j hj=>by simp
  have eY:∀i j,i≤j→j<l.length→l[i]!≤l[j]!:=fun i j yH hj=>by
   rcases Nat.lt_or_ge i j with k|k
   ·rw[getElem!_pos l i zO,getElem!_pos l j hj];exact List.pairwise_iff_getElem.1 h i j zO hj k
   ·obtain rfl:i=j:=by omega
    exact List.le_refl _
  refine List.pairwise_append.2 ⟨ih,?_,fun x hx y hy=>?_⟩
  ·split<;>simp
  ·by_cases hk:Lib.keeps l.toArray m=true
   ·rw[if_pos hk]at hy;obtain rfl:y=l.toArray[m]!:=by simpa using hy
    obtain⟨j,hj,_,rfl⟩:=(K7 m x).1 hx;unfold Lib.keeps at hk;have hk:=of_decide_eq_true hk;have hk:l.toArray[m]!≠l.toArray[m-1]!:=hk.resolve_left zO;rw[hg _ zO,hg _ zO]at hk;rw[hg _ zO,hg _ zO];have h1:=eY j (m-1) zO zO;have h2:=eY (m-1) m zO zO;refine Sz (List.le_trans h1 h2) fun e=>hk ?_;rw[←e]at h2⊢;exact List.le_antisymm h1 h2
   ·rw[if_neg hk]at hy;cases hy
theorem Yi(f:Fact):ia (cC f):=Nr (vt _) _ (Nat.le_refl _)
theorem Yh{a b:List aa}(ha:ia a)(hb:ia b)(h:∀x,x∈a↔x∈b):a=b:=
 CW (U0 (Ho ha) (Ho hb) h) (ha.imp fun k=>List.le_of_lt ((rN _ _).1 k)) (hb.imp fun k=>List.le_of_lt ((rN _ _).1 k))
theorem T5(f:Fact):rX f=cC f:=Yh (Yj f) (Yi f) fun x=>by rw[ahr,TE]
def ke(l:List aW):List (List aa):=l.foldl (fun g i=>kf g [i.id]) []
def kC(all l:List Fact)(g:List (List aa)):List (List aa):=l.foldl (fun g f=>kf g (ew all f.key)) g
@[simp] theorem art:ke []=[]:=rfl
@[simp] theorem aqF(all:List Fact)(g:List (List aa)):kC all [] g=g:=rfl
@[simp] theorem aqc(k:aa):ew [] k=[]:=rfl
theorem afx(l:List aW)(x:aW):ke (l++[x])=kf (ke l) [x.id]:=by unfold ke;rw[List.foldl_append];rfl
theorem ab9(all l:List Fact)(g:List (List aa))(x:Fact):kC all (l++[x]) g=kf (kC all l g) (ew all x.key):=by unfold kC;rw[List.foldl_append];rfl
@[reducible] def VG(s:Setup)(all l:List Fact):List (List aa):=s.insts.map (fun x=>[x.id])++l.map fun f=>ew all f.key
theorem Qm{A B gs:List (List aa)}(e:∀z,z∈A↔z∈B)(h:ph A gs):ph B gs:=
 ⟨h.ne,h.Hl,h.nd,fun r hr=>h.Ks r ((e r).2 hr),fun g hg x hx y hy=>(h.DJ g hg x hx y hy).mono fun l hl=>⟨l,(e l).1 hl,fun _=>id⟩,fun g hg x hx=>(h.FK g hg x hx).imp fun _ k=>⟨(e _).1 k.1,k.2⟩⟩
theorem RX(Ls:List (List aa)):∀(l:List aW)(gs:List (List aa)),ph Ls gs→ph (l.map (fun x=>[x.id])++Ls) (l.foldl (fun g i=>kf g [i.id]) gs)
 |[],_,h=>h
 |x::r,gs,h=>by
  have h2:=RX ([x.id]::Ls) r _ (R6 (iY:=[x.id]::Ls) (ns:=[x.id]) h fun r=>by rw[List.mem_cons]);have e:∀z:List aa,z∈(r.map (fun x=>[x.id])++[x.id]::Ls)↔z∈((x::r).map (fun x=>[x.id])++Ls):=fun z=>by
   simp only[List.map_cons,List.cons_append,List.mem_append,List.mem_cons];constructor
   ·rintro(a|a|a)
    ·exact .inr (.inl a)
    ·exact .inl a
    ·exact .inr (.inr a)
   ·rintro(a|a|a)
    ·exact .inr (.inl a)
    ·exact .inl a
    ·exact .inr (.inr a)
  exact Qm e h2
theorem Pg(all:List Fact):∀(l:List Fact)(Ls gs:List (List aa)),ph Ls gs→ph (Ls++l.map fun f=>ew all f.key) (kC all l gs)
 |[],Ls,_,h=>by simpa[kC]using h
 |x::r,Ls,gs,h=>by
  have h2:=Pg all r (ew all x.key::Ls) _ (R6 (iY:=ew all x.key::Ls) (ns:=ew all x.key) h fun r=>by rw[List.mem_cons]);refine Qm (fun z=>?_) h2;simp only[List.map_cons,List.cons_append,List.mem_append,List.mem_cons];constructor
  ·rintro(a|a|a)
   ·exact .inr (.inl a)
   ·exact .inl a
   ·exact .inr (.inr a)
  ·rintro(a|a|a)
   ·exact .inr (.inl a)
   ·exact .inl a
   ·exact .inr (.inr a)
def ED(s:Setup)(l:List Fact):List (List aa):=kC l l (ke s.insts)
theorem Je(s:Setup)(l:List Fact):ph (VG s l l) (ED s l):=by
 have h1:=RX [] s.insts [] adU;rw[List.append_nil]at h1;exact Pg l l _ _ h1
theorem aks(s:Setup)(l:List Fact):lu (VG s l l)=lu (i_ s l):=by
 refine adQ (fun r hr=>?_) (fun r hr=>?_)
 ·rcases List.mem_append.1 hr with h|h
  ·exact⟨r,by unfold i_;exact List.mem_append_left _ (List.mem_append_left _ h),fun _=>id⟩
  ·exact⟨r,by unfold i_;exact List.mem_append_right _ h,fun _=>id⟩
 ·unfold i_ at hr;rcases List.mem_append.1 hr with h|h
  ·rcases List.mem_append.1 h with h|h
   ·exact⟨r,List.mem_append_left _ h,fun _=>id⟩
   ·obtain⟨f,hf,rfl⟩:=List.mem_map.1 h;refine⟨ew l f.key,List.mem_append_right _ (List.mem_map.2 ⟨f,hf,rfl⟩),fun x hx=>?_⟩;unfold ew;exact List.mem_flatten.2 ⟨_,List.mem_map.2 ⟨f,List.mem_filter.2 ⟨hf,by simp⟩,rfl⟩,hx⟩
  ·exact⟨r,List.mem_append_right _ h,fun _=>id⟩
structure sk(gs out cur:List (List aa)):Prop where
 perm:(out++cur).Perm gs
 sorted:(out.map (·.headD [])).Pairwise fun a b=>a≤b
 le:∀a∈out,∀b∈cur,a.headD []≤b.headD []
theorem V4(gs:List (List aa)):sk gs [] gs:=⟨by simp,by simp,by simp⟩
theorem ak1{gs out cur pre rest:List (List aa)}{g:List aa}(h:sk gs out cur)(hc:cur=pre++g::rest)(hm:∀b∈cur,g.headD []≤b.headD []):sk gs (out++[g]) (pre++rest):=by
 subst hc;refine⟨?_,?_,?_⟩
 ·refine List.Perm.trans ?_ h.perm;rw[List.append_assoc];exact List.Perm.append_left _ (show(g::(pre++rest)).Perm (pre++g::rest)from List.perm_middle.symm)
 ·rw[List.map_append];refine List.pairwise_append.2 ⟨h.sorted,by simp,fun a ha b hb=>?_⟩;obtain⟨x,hx,rfl⟩:=List.mem_map.1 ha;obtain rfl:b=g.headD []:=by simpa using hb
  exact h.le x hx g zS
 ·intro a ha b hb;have qk:b∈pre++g::rest:=by
   rcases List.mem_append.1 hb with k|k
   ·exact List.mem_append_left _ k
   ·exact List.mem_append_right _ (List.mem_cons_of_mem _ k)
  rcases List.mem_append.1 ha with k|k
  ·exact h.le a k b qk
  ·obtain rfl:a=g:=by simpa using k
   exact hm b qk
theorem V5{Ls gs out cur:List (List aa)}(h:sk gs out cur)(hg:ph Ls gs):∀b∈cur,b≠[]:=fun b hb=>hg.ne b (h.perm.mem_iff.1 (List.mem_append_right _ hb))
theorem ak0{gs out cur:List (List aa)}(h:sk gs out cur):out.length+cur.length=gs.length:=by have:=h.perm.length_eq;rwa[List.length_append]at this
theorem akZ{s:Setup}{l:List Fact}{out:List (List aa)}(h:sk (ED s l) out []):[]::out=yz s l:=by
 have hp:=h.perm;rw[List.append_nil]at hp;unfold yz;rw[←aks,adT (Je s l) hp h.sorted]
theorem getD_at{l:List (List aa)}{k:Nat}(h:k<l.length):l.getD k []=l[k]:=by simp[List.getD_eq_getElem?_getD,h]
@[reducible] def ud(cur:List (List aa))(k n:Nat):Prop:=∀j,j<n→(cur.getD k []).headD []≤(cur.getD j []).headD []
theorem agI(cur:List (List aa)):ud cur 0 1:=fun j hj=>by obtain rfl:j=0:=zO;exact List.le_refl _
theorem agK{cur:List (List aa)}{k n:Nat}(h:ud cur k n)(bw:aa.lt ((cur.getD n []).headD []) ((cur.getD k []).headD [])=true):ud cur n (n+1):=fun j hj=>by
 have hl:=List.le_of_lt ((rN _ _).1 bw);rcases Nat.lt_or_ge j n with q|q
 ·exact List.le_trans hl (h j q)
 ·obtain rfl:j=n:=by omega
  exact List.le_refl _
theorem agJ{cur:List (List aa)}{k n:Nat}(h:ud cur k n)(bw:aa.lt ((cur.getD n []).headD []) ((cur.getD k []).headD [])=false):ud cur k (n+1):=fun j hj=>by
 rcases Nat.lt_or_ge j n with q|q
 ·exact h j q
 ·obtain rfl:j=n:=by omega
  have:¬(cur.getD j []).headD []<(cur.getD k []).headD []:=by rw[←rN,bw];simp
  exact List.not_lt.1 this
theorem agL{cur:List (List aa)}{k:Nat}(h:ud cur k cur.length):∀b∈cur,(cur.getD k []).headD []≤b.headD []:=fun b hb=>by
 obtain⟨j,hj,rfl⟩:=List.getElem_of_mem hb;have:=h j hj;rwa[getD_at hj]at this
theorem alq{cur:List (List aa)}{k:Nat}(h:k<cur.length):cur=cur.take k++cur.getD k []::cur.drop (k+1):=by
 rw[getD_at h,List.getElem_cons_drop,List.take_append_drop]
theorem V6{gs out cur:List (List aa)}{k:Nat}(h:sk gs out cur)(hk:k<cur.length)(hm:ud cur k cur.length):sk gs (out++[cur.getD k []]) (cur.take k++cur.drop (k+1)):=ak1 h (alq hk) (agL hm)
theorem R1:∀(l:List aW)(gs:List (List aa)),(l.foldl (fun g i=>kf g [i.id]) gs).flatten.length≤gs.flatten.length+l.length∧(l.foldl (fun g i=>kf g [i.id]) gs).length≤gs.length+l.length
 |[],gs=>by simp
 |x::r,gs=>by
  have h1:=R1 r (kf gs [x.id]);have h2:=SF gs [x.id];simp only[List.length_cons,List.length_nil]at h2;rw[List.foldl_cons,List.length_cons];omega
theorem afw(l:List aW):(ke l).flatten.length≤l.length∧(ke l).length≤l.length:=by
 have:=R1 l [];simp only[List.flatten_nil,List.length_nil,Nat.zero_add]at this;exact this
theorem Pf{all:List Fact}{n:Nat}(hn:∀k,(ew all k).length≤n):∀(l:List Fact)(gs:List (List aa)),(kC all l gs).flatten.length≤gs.flatten.length+l.length*n∧(kC all l gs).length≤gs.length+l.length
 |[],gs=>by simp[kC]
 |x::r,gs=>by
  have h1:=Pf hn r (kf gs (ew all x.key));have h2:=SF gs (ew all x.key);have h3:=hn x.key;have e:kC all (x::r) gs=kC all r (kf gs (ew all x.key)):=rfl;rw[e,List.length_cons,Nat.succ_mul];omega
theorem Og{n:Nat}:∀(l:List Fact)(k:aa),(∀f∈l,(cC f).length≤n)→(ew l k).length≤l.length*n
 |[],_,_=>by simp[ew]
 |x::r,k,h=>by
  have h1:=Og r k fun f hf=>h f (by simp[hf]);have h2:=h x zS;unfold ew at h1⊢;rw[List.length_cons,Nat.succ_mul];by_cases hk:x.key=k
  ·rw[List.filter_cons_of_pos (by simpa using hk),List.map_cons,List.flatten_cons,List.length_append];omega
  ·rw[List.filter_cons_of_neg (by simpa using hk)];omega
def jg(x:aa)(l:List (List aa)):Int×Int:=l.foldl (fun(a:Int×Int) g=>(a.1+1,if rn g x=true then a.1+1 else a.2)) (0,0)
theorem UN(x:aa)(l:List (List aa))(g:List aa):jg x (l++[g])=((jg x l).1+1,if rn g x=true then(jg x l).1+1 else(jg x l).2):=by unfold jg;rw[List.foldl_append];rfl
theorem Mt{α:Type}{P:List α→Prop}(h0:P [])(h:∀l x,P l→P (l++[x]))(l:List α):P l:=by
 have:∀m:List α,P m.reverse:=fun m=>by
  induction m with
  |nil=>exact h0
  |cons a m ih=>rw[List.reverse_cons];exact h _ _ ih
 have e:=this l.reverse;rwa[List.reverse_reverse]at e
theorem ai_(x:aa)(l:List (List aa)):(jg x l).1=l.length:=by
 refine Mt (P:=fun l=>(jg x l).1=l.length) rfl (fun l g ih=>?_) l;rw[UN,ih];simp
theorem Cp(x:aa)(l:List (List aa))(g:List aa):(jg x (l++[g])).2=if rn g x=true then(l.length:Int)+1 else(jg x l).2:=by rw[UN,ai_]
theorem Ju{l:List aa}{x:aa}:rn l x=true↔x∈l:=by
 unfold rn;rw[List.any_eq_true];constructor
 ·rintro⟨y,hy,e⟩;rw[←of_decide_eq_true e];exact hy
 ·intro h;exact⟨x,h,by simp⟩
theorem ajb{x:aa}(l:List (List aa))(h:∀g∈l,x∉g):(jg x l).2=0:=by
 refine Mt (P:=fun l=>(∀g∈l,x∉g)→(jg x l).2=0) (fun _=>rfl) (fun l g ih hh=>?_) l h;rw[Cp,if_neg (fun k=>hh g zS (Ju.1 k))];exact ih fun g hg=>hh g (by simp[hg])
theorem ajc{x:aa}(p l:List (List aa))(h:∀g∈l,x∉g):(jg x (p++l)).2=(jg x p).2:=by
 refine Mt (P:=fun l=>(∀g∈l,x∉g)→(jg x (p++l)).2=(jg x p).2) (fun _=>by simp) (fun l g ih hh=>?_) l h;rw[←List.append_assoc,Cp,if_neg (fun k=>hh g zS (Ju.1 k))];exact ih fun g hg=>hh g (by simp[hg])
theorem aja{x:aa}{p q:List (List aa)}{g:List aa}(hn:(p++g::q).flatten.Nodup)(hx:x∈g):(jg x (p++g::q)).2=(p.length:Int)+1:=by
 have e:p++g::q=(p++[g])++q:=by simp
 rw[e,ajc,Cp,if_pos (Ju.2 hx)];intro k hk hxk;rw[e,List.flatten_append,List.nodup_append]at hn;exact hn.2.2 x (List.mem_flatten.2 ⟨g,by simp,hx⟩) x (List.mem_flatten.2 ⟨k,hk,hxk⟩) rfl
theorem Xh{tl:List (List aa)}(hn:tl.flatten.Nodup)(x:aa):((jg x tl).2=0∧fb ([]::tl) x<0)∨((jg x tl).2≠0∧fb ([]::tl) x=(jg x tl).2∧0≤(jg x tl).2):=by
 by_cases h:∃g∈tl,x∈g
 ·obtain⟨g,hg,hx⟩:=h;obtain⟨p,q,rfl⟩:=List.append_of_mem hg;have h1:=aja hn hx;have h2:fb ([]::(p++g::q)) x=((p.length+1:Nat):Int):=anW (by simpa using hn) zS hx;exact .inr ⟨by omega,by rw[h1,h2];rfl,by omega⟩
 ·refine .inl ⟨ajb _ fun g hg hx=>h ⟨g,hg,hx⟩,?_⟩;unfold fb jq;rw[if_neg]
  ·omega
  ·intro k;obtain⟨g,hg,k⟩:=List.any_eq_true.1 k;obtain⟨m,hm,e⟩:=List.any_eq_true.1 k;rcases List.mem_cons.1 hg with rfl|hg
   ·cases hm
   ·rw[←of_decide_eq_true e]at hm;exact h ⟨g,hg,hm⟩
structure vO(own:aa→Int)(pre:List aa)(at_:Int)(mixed:Bool):Prop where
 nz:∀x∈pre,own x≠0
 e0:pre=[]→at_=0
 mem:pre≠[]→∃y∈pre,own y=at_
 f:mixed=false→∀y∈pre,own y=at_
 t:mixed=true→∃y∈pre,∃z∈pre,own y≠own z
theorem anZ(own:aa→Int):vO own [] 0 false:=⟨by simp,fun _=>rfl,fun h=>absurd rfl h,by simp,by simp⟩
theorem an0{own:aa→Int}{pre:List aa}{a:Int}{m:Bool}{x:aa}(h:vO own pre a m)(hx:own x≠0):vO own (pre++[x]) (own x) (m||(decide (0<(pre.length:Int))&&decide (own x≠a))):=by
 refine⟨fun y hy=>?_,fun e=>by simp at e,fun _=>⟨x,by simp,rfl⟩,fun hm y hy=>?_,fun hm=>?_⟩
 ·rcases List.mem_append.1 hy with k|k
  ·exact h.nz y k
  ·obtain rfl:y=x:=by simpa using k
   exact hx
 ·rw[Bool.or_eq_false_iff]at hm;rcases List.mem_append.1 hy with k|k
  ·have h0:0<(pre.length:Int):=by have:=List.length_pos_of_mem k;omega
   have h2:=hm.2;rw[decide_eq_true h0,Bool.true_and,decide_eq_false_iff_not]at h2;rw[h.f hm.1 y k];exact(Decidable.not_not.1 h2).symm
  ·obtain rfl:y=x:=by simpa using k
   rfl
 ·rw[Bool.or_eq_true]at hm;rcases hm with hm|hm
  ·obtain⟨y,hy,z,hz,k⟩:=h.t hm;exact⟨y,by simp[hy],z,by simp[hz],k⟩
  ·rw[Bool.and_eq_true]at hm;have h0:pre≠[]:=by rintro rfl;simp at hm
   obtain⟨y,hy,e⟩:=h.mem h0;exact⟨x,by simp,y,by simp[hy],by rw[e];exact of_decide_eq_true hm.2⟩
theorem IN:∀(l:List Int)(a:Int),(l.foldl min a≤a∧∀y∈l,l.foldl min a≤y)∧(a≤l.foldl max a∧∀y∈l,y≤l.foldl max a)
 |[],a=>by simp
 |x::r,a=>by
  have h1:=(IN r (min a x)).1;have h2:=(IN r (max a x)).2;simp only[List.foldl_cons,List.mem_cons];refine⟨⟨by omega,fun y hy=>?_⟩,⟨by omega,fun y hy=>?_⟩⟩
  ·rcases hy with rfl|hy
   ·omega
   ·exact h1.2 y hy
  ·rcases hy with rfl|hy
   ·omega
   ·exact h2.2 y hy
theorem TH{l:List Int}{y:Int}(h:y∈l):rS l≤y∧y≤rQ l:=by
 cases l with
 |nil=>cases h
 |cons a r=>
  have h1:=IN r a;unfold rS rQ;rcases List.mem_cons.1 h with rfl|h
  ·exact⟨h1.1.1,h1.2.1⟩
  ·exact⟨h1.1.2 y h,h1.2.2 y h⟩
section
variable{tl:List (List aa)} {ns:List aa}
@[reducible] def oN(tl:List (List aa))(x:aa):Int:=(jg x tl).2
theorem Xk(hn:tl.flatten.Nodup){pre rest:List aa}{x:aa}(hx:ns=pre++x::rest)(h0:oN tl x=0):jf ([]::tl) ns=(0,6):=
 Lv hx (decide_eq_true (by rcases Xh hn x with k|k;exact k.2;exact absurd h0 k.1))
theorem Xl(hn:tl.flatten.Nodup){a:Int}{m:Bool}(h:vO (oN tl) ns a m):∀x∈ns,fb ([]::tl) x=oN tl x∧0≤oN tl x:=fun x hx=>by
 rcases Xh hn x with k|k
 ·exact absurd k.1 (h.nz x hx)
 ·exact k.2
theorem Xi(hn:tl.flatten.Nodup){a:Int}(h:vO (oN tl) ns a false):jf ([]::tl) ns=(a,0):=by
 have hw:=Xl hn h;refine aiu ?_ (fun x hx=>by rw[(hw x hx).1];exact h.f rfl x hx) h.e0;by_cases e:ns=[]
 ·rw[h.e0 e];omega
 ·obtain⟨y,hy,k⟩:=h.mem e;rw[←k];exact(hw y hy).2
theorem Xj(hn:tl.flatten.Nodup){a:Int}(h:vO (oN tl) ns a true):jf ([]::tl) ns=(0,9):=by
 have hw:=Xl hn h;obtain⟨y,hy,z,hz,k⟩:=h.t rfl;have e:ns.map (fb ([]::tl))=ns.map (oN tl):=List.map_congr_left fun x hx=>(hw x hx).1;have h1:=TH (l:=ns.map (oN tl)) (List.mem_map.2 ⟨y,hy,rfl⟩);have h2:=TH (l:=ns.map (oN tl)) (List.mem_map.2 ⟨z,hz,rfl⟩);refine Us ?_ ?_ ?_
 ·rw[List.any_eq_false];intro x hx;rw[(hw x hx).1];have:=(hw x hx).2;simp;omega
 ·rw[List.length_map,decide_eq_false_iff_not];have:=List.length_pos_of_mem hy;omega
 ·rw[e];exact decide_eq_true zO
end
def xU(seen pre:List aa)(x:aa):Bool:=(!isName x||(decide (0<(pre.length:Int))&&!aa.lt (qz pre) x))||rn seen x
theorem bad_eq{seen pre:List aa}{x:aa}(h:ia pre):((!isName x||(decide (0<(pre.length:Int))&&!aa.lt (qz pre) x))||(seen++pre).any (fun y=>decide (y=x)))=xU seen pre x:=by
 unfold xU;rw[List.any_append,show(seen.any fun y=>decide (y=x))=rn seen x from rfl];by_cases hp:pre=[]
 ·subst hp;simp
 ·cases hb:(decide (0<(pre.length:Int))&&!aa.lt (qz pre) x)with
  |true=>simp
  |false=>
   have h0:decide (0<(pre.length:Int))=true:=decide_eq_true (by have:=List.length_pos_iff.2 hp;omega);rw[h0,Bool.true_and]at hb;have hl:aa.lt (qz pre) x=true:=by simpa using hb
   have:pre.any (fun y=>decide (y=x))=false:=by
    rw[List.any_eq_false];intro y hy;rw[decide_eq_true_eq];rintro rfl;obtain⟨p,z,rfl⟩:∃p z,pre=p++[z]:=⟨pre.dropLast,pre.getLast hp,(List.dropLast_concat_getLast hp).symm⟩;rw[Ss]at hl;rcases List.mem_append.1 hy with k|k
    ·have h3:=(List.pairwise_append.1 h).2.2 y k z zS;exact KI (KJ h3 hl) rfl
    ·obtain rfl:y=z:=by simpa using k
     exact KI hl rfl
   rw[this];simp only[Bool.or_false,Bool.false_eq_true]
theorem Yq{pre:List aa}{x:aa}{seen:List aa}(h:ia pre)(hb:xU seen pre x=false):ia (pre++[x]):=by
 unfold xU at hb;rw[Bool.or_eq_false_iff,Bool.or_eq_false_iff]at hb;refine List.pairwise_append.2 ⟨h,by simp,fun y hy z hz=>?_⟩;obtain rfl:z=x:=by simpa using hz
 have hp:pre≠[]:=List.ne_nil_of_mem hy;have h0:decide (0<(pre.length:Int))=true:=decide_eq_true (by have:=List.length_pos_iff.2 hp;omega);have hl:=hb.1.2;rw[h0,Bool.true_and]at hl;have hl:aa.lt (qz pre) z=true:=by simpa using hl
 obtain⟨p,w,rfl⟩:∃p w,pre=p++[w]:=⟨pre.dropLast,pre.getLast hp,(List.dropLast_concat_getLast hp).symm⟩;rw[Ss]at hl;rcases List.mem_append.1 hy with k|k
 ·exact KJ ((List.pairwise_append.1 h).2.2 y k w zS) hl
 ·obtain rfl:y=w:=by simpa using k
  exact hl
theorem ae1{seen pre rest:List aa}{x:aa}{e:Bool}(ha:ia pre)(hq:e=j_ seen pre (x::rest))(h:xU seen pre x=true):e=false:=by rw[hq,Kp (by rw[bad_eq ha];exact h)]
theorem ae0{seen pre rest:List aa}{x:aa}{e:Bool}(ha:ia pre)(hq:e=j_ seen pre (x::rest))(h:xU seen pre x=false):e=j_ seen (pre++[x]) rest:=by rw[hq,Ko (by rw[bad_eq ha];exact h)]
theorem RG:∀(r seen pre:List aa),(seen++pre).Nodup→j_ seen pre r=true→(seen++(pre++r)).Nodup
 |[],seen,pre,h,_=>by simpa using h
 |x::r,seen,pre,h,k=>by
  cases hb:((!isName x||(decide (0<(pre.length:Int))&&!aa.lt (qz pre) x))||(seen++pre).any (fun y=>decide (y=x)))with
  |true=>rw[Kp hb]at k;cases k
  |false=>
   rw[Ko hb]at k;rw[Bool.or_eq_false_iff]at hb;have hn:x∉seen++pre:=fun hm=>by
    have:=List.any_eq_false.1 hb.2 x hm;simp at this
   have h2:=RG r seen (pre++[x]) (by
    rw[←List.append_assoc];exact List.nodup_append.2 ⟨h,by simp,fun a ha b hb=>by obtain rfl:b=x:=(by simpa using hb);rintro rfl;exact hn ha⟩) k
   simpa using h2
theorem RH:∀(r:List (List aa))(seen:List aa),seen.Nodup→nR seen r=true→(seen++r.flatten).Nodup
 |[],seen,h,_=>by simpa using h
 |g::r,seen,h,k=>by
  rw[nR]at k;split at k
  ·cases k
  ·split at k
   ·cases k
   ·rename_i _ hg;have hg:j_ seen [] g=true:=by simpa using hg
    have h2:=RG g seen [] (by simpa using h) hg;rw[List.nil_append]at h2;have h3:=RH r (seen++g) h2 k;rw[List.flatten_cons,←List.append_assoc];exact h3
theorem anJ{gs:List (List aa)}(h:n_ gs=true):∃tl,gs=[]::tl∧tl.flatten.Nodup:=by
 unfold n_ at h;split at h
 ·cases h
 ·rename_i k;have k:(decide ((gs.length:Int)=0)||decide (0<((gs.headD []).length:Int)))=false:=by simpa using k
  rw[Bool.or_eq_false_iff,decide_eq_false_iff_not,decide_eq_false_iff_not]at k;cases gs with
  |nil=>exact absurd rfl k.1
  |cons a r=>
   have:a=[]:=List.length_eq_zero_iff.1 (by have:=k.2;simp only[List.headD_cons]at this;omega);subst this;exact⟨r,rfl,by simpa using RH r [] zS (by simpa using h)⟩
end Go.T
