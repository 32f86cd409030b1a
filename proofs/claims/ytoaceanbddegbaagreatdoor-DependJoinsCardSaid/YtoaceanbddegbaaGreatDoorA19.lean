/-
  Contracts of the functions that the statement reaches, and the logic in which they are proved (no condition): parts W160, W161.
-/
import Derived.Test.YtoaceanbddegbaaGreatDoorA18
set_option linter.all false
namespace Go.T
open Go Go.Proofs Go.Proofs.Tryz
set_option maxRecDepth 20000
theorem uq(a b:ae):ae.lt a b=!decide (0≤dm a b):=by
 unfold dm;cases h:ae.lt a b
 ·cases ae.lt b a<;>simp
 ·simp
theorem EL(p q:Int)(s t:ae):(decide (p<q)||(decide (q=p)&&ae.lt s t))=!decide (0≤(if cI p q≠0 then cI p q else dm s t)):=by
 rw[uq];unfold cI;rcases Int.lt_trichotomy p q with h|h|h
 ·simp[h]
 ·simp[h]
 ·have h1:¬p<q:=by omega
  have h2:¬q=p:=by omega
  simp[h,h1,h2]
theorem PW(x a:j6):decide (0<jJ a.1 x.1)=!bA gz a x:=by
 have:=NH.neg a.1 x.1;unfold bA gz;rw[←decide_not,decide_eq_decide];omega
structure ah5(l:List bj)(x:bj)where
 k:Nat
 hk:k≤(sorted fw l).length
 hq:∀j,k≤j→j<(sorted fw l).length→bA fw (at_ (sorted fw l) j) x=false
theorem ah4(l:List bj)(x:bj)(hl:l.length≤1000):Fc Tryz.prog 89 [.snap 2 false (((sorted fw l)).map bU),.agg (bU x)] (.snap 2 false ((sorted fw (l++[x])).map bU)):=by
 refine Fc.mk' [4] func89 rfl ntmps89 rfl rfl rfl (fun t w=>results_tmp results89 t _ w) ?_;have qI:=uT fw l;refine go [4,99999] ?_;refine U.loop (ι:=ah5 l x) (fun sx=>[(0,.snap 2 false (((sorted fw l)).map bU)),(3,.box 0 0),(5,.i sx.k)]) (fun sx=>[(0,.cells (bU x))]) (fun sx=>sx.k) ⟨(sorted fw l).length,Nat.le_refl _,fun j h1 h2=>by omega⟩ ?_ ?_
 ·exact Le.mk rfl (.s rfl rfl (.s rfl rfl (.cons rfl (Sub.int zS) rfl .nil))) (.cons rfl rfl .nil)
 ·rintro⟨k,hk,hq⟩;show U _ _ _ _ [(0,.snap 2 false (((sorted fw l)).map bU)),(3,.box 0 0),(5,.i k)] [(0,.cells (bU x))];refine go [4,99999] ?_;refine pA (fun hg=>(aW (by have eR:=iM hg;omega) (by have eR:=iM hg;omega))) ?_;refine lW (fun hg=>And.intro (by have eR:=iM hg;omega) (rU bU (by have eR:=iM hg;omega) hk rfl)) ?_;refine ord ?_;refine br (fun h1=>?_) (fun h1=>?_)
  ·have a_:=h1;try simp only[bs]at a_
   refine sd (aB zO) ?_;exact nx ⟨k-1,by omega,yd h1 (by simp only[bA,fw];exact uq _ _) hq⟩ (by show k-1<k;omega) (Le.mk rfl (.s rfl rfl (.s rfl rfl (.cons rfl (Sub.int (by dsimp only;omega)) rfl .nil))) (.cons rfl rfl .nil))
  ·refine go [4,99999] ?_;refine U.bC (Le.h_ 3 0 rfl rfl rfl rfl) ?_;refine go [99999] ?_;refine oP (rR underlying25 sizeOf39) ?_;refine oP (kp underlying25 sizeOf39 rfl (h:=k) (r:=((sorted fw l).take k).map bU) (.inl ⟨rfl,rfl⟩) (.inr ⟨_,_,rfl,rfl⟩) zO zQ (by simp[List.map_take])) ?_;refine oW (aq.ij 1 2 (t:=23) rfl (Sub.sw _ _) (dJ 2 underlying25 underlying25 sizeOf39 typeInfo39 zeroValue39 rfl (bt:=32) rfl rfl rfl rfl rfl rfl rfl zQ)) ?_;refine oP (cm (n:=1) (rows:=[bU x]) underlying25 sizeOf39 rfl rfl rfl zeroValue39 rfl rfl rfl rfl rfl rfl rfl) ?_;refine oW (dJ 3 underlying25 underlying25 sizeOf39 typeInfo39 zeroValue39 rfl (bt:=32) rfl rfl rfl rfl zS rfl rfl zQ) ?_;refine oP (kp underlying25 sizeOf39 rfl (l:=k) (r:=((sorted fw l).drop k).map bU) (.inr ⟨_,_,rfl,rfl⟩) (.inl ⟨rfl,rfl⟩) zQ zS (by rw[List.take_of_length_le zS];simp[List.map_drop])) ?_;refine oW (dJ 4 underlying25 underlying25 sizeOf39 typeInfo39 zeroValue39 rfl (bt:=32) rfl rfl rfl rfl zS rfl rfl zQ) ?_;refine ord ?_;refine U.bC (Le.freeze 4 4 rfl rfl zQ) ?_;refine U.ret (?_);exact bS (J:=[]) rfl (Sub.snap (by rw[←ye NK hk hq (yc h1 (by simp only[bA,fw];exact uq _ _))];simp))
structure ah3(l:List jR)(x:jR)where
 k:Nat
 hk:k≤(sorted gA l).length
 hq:∀j,k≤j→j<(sorted gA l).length→bA gA (at_ (sorted gA l) j) x=false
theorem ah2(l:List jR)(x:jR)(hl:l.length≤1000):Fc Tryz.prog 52 [.snap 7 false (((sorted gA l)).map iA),.agg (iA x)] (.snap 7 false ((sorted gA (l++[x])).map iA)):=by
 refine Fc.mk' [4] func52 rfl ntmps52 rfl rfl rfl (fun t w=>results_tmp results52 t _ w) ?_;have qI:=uT gA l;refine go [4,99999] ?_;refine U.loop (ι:=ah3 l x) (fun sx=>[(0,.snap 7 false (((sorted gA l)).map iA)),(3,.box 0 0),(5,.i sx.k)]) (fun sx=>[(0,.cells (iA x))]) (fun sx=>sx.k) ⟨(sorted gA l).length,Nat.le_refl _,fun j h1 h2=>by omega⟩ ?_ ?_
 ·exact Le.mk rfl (.s rfl rfl (.s rfl rfl (.cons rfl (Sub.int zS) rfl .nil))) (.cons rfl rfl .nil)
 ·rintro⟨k,hk,hq⟩;show U _ _ _ _ [(0,.snap 7 false (((sorted gA l)).map iA)),(3,.box 0 0),(5,.i k)] [(0,.cells (iA x))];refine go [4,99999] ?_;refine pA (fun hg=>(aW (by have eR:=iM hg;omega) (by have eR:=iM hg;omega))) ?_;refine lW (fun hg=>And.intro (by have eR:=iM hg;omega) (rU iA (by have eR:=iM hg;omega) hk rfl)) ?_;refine ord ?_;refine br (fun h1=>?_) (fun h1=>?_)
  ·have a_:=h1;try simp only[bs]at a_
   refine sd (aB zO) ?_;exact nx ⟨k-1,by omega,yd h1 (by simp only[bA,gA];exact uq _ _) hq⟩ (by show k-1<k;omega) (Le.mk rfl (.s rfl rfl (.s rfl rfl (.cons rfl (Sub.int (by dsimp only;omega)) rfl .nil))) (.cons rfl rfl .nil))
  ·refine go [4,99999] ?_;refine U.bC (Le.h_ 3 0 rfl rfl rfl rfl) ?_;refine go [99999] ?_;refine oP (rR underlying24 sizeOf97) ?_;refine oP (kp underlying24 sizeOf97 rfl (h:=k) (r:=((sorted gA l).take k).map iA) (.inl ⟨rfl,rfl⟩) (.inr ⟨_,_,rfl,rfl⟩) zO zQ (by simp[List.map_take])) ?_;refine oW (aq.ij 1 7 (t:=23) rfl (Sub.sw _ _) (dJ 2 underlying24 underlying24 sizeOf97 typeInfo97 zeroValue97 rfl (bt:=96) rfl rfl rfl rfl rfl rfl rfl zQ)) ?_;refine oP (cm (n:=1) (rows:=[iA x]) underlying24 sizeOf97 rfl rfl rfl zeroValue97 rfl rfl rfl rfl rfl rfl rfl) ?_;refine oW (dJ 3 underlying24 underlying24 sizeOf97 typeInfo97 zeroValue97 rfl (bt:=96) rfl rfl rfl rfl zS rfl rfl zQ) ?_;refine oP (kp underlying24 sizeOf97 rfl (l:=k) (r:=((sorted gA l).drop k).map iA) (.inr ⟨_,_,rfl,rfl⟩) (.inl ⟨rfl,rfl⟩) zQ zS (by rw[List.take_of_length_le zS];simp[List.map_drop])) ?_;refine oW (dJ 4 underlying24 underlying24 sizeOf97 typeInfo97 zeroValue97 rfl (bt:=96) rfl rfl rfl rfl zS rfl rfl zQ) ?_;refine ord ?_;refine U.bC (Le.freeze 4 4 rfl rfl zQ) ?_;refine U.ret (?_);exact bS (J:=[]) rfl (Sub.snap (by rw[←ye NJ hk hq (yc h1 (by simp only[bA,gA];exact uq _ _))];simp))
structure ah1(l:List jF)(x:jF)where
 k:Nat
 hk:k≤(sorted gp l).length
 hq:∀j,k≤j→j<(sorted gp l).length→bA gp (at_ (sorted gp l) j) x=false
theorem ah0(l:List jF)(x:jF)(hl:l.length≤1000):Fc Tryz.prog 53 [.snap 10 false (((sorted gp l)).map gX),.agg (gX x)] (.snap 10 false ((sorted gp (l++[x])).map gX)):=by
 refine Fc.mk' [4] func53 rfl ntmps53 rfl rfl rfl (fun t w=>results_tmp results53 t _ w) ?_;have qI:=uT gp l;refine go [4,99999] ?_;refine U.loop (ι:=ah1 l x) (fun sx=>[(0,.snap 10 false (((sorted gp l)).map gX)),(3,.box 0 0),(5,.i sx.k)]) (fun sx=>[(0,.cells (gX x))]) (fun sx=>sx.k) ⟨(sorted gp l).length,Nat.le_refl _,fun j h1 h2=>by omega⟩ ?_ ?_
 ·exact Le.mk rfl (.s rfl rfl (.s rfl rfl (.cons rfl (Sub.int zS) rfl .nil))) (.cons rfl rfl .nil)
 ·rintro⟨k,hk,hq⟩;show U _ _ _ _ [(0,.snap 10 false (((sorted gp l)).map gX)),(3,.box 0 0),(5,.i k)] [(0,.cells (gX x))];refine go [4,99999] ?_;refine pA (fun hg=>(aW (by have eR:=iM hg;omega) (by have eR:=iM hg;omega))) ?_;refine lW (fun hg=>And.intro (by have eR:=iM hg;omega) (rU gX (by have eR:=iM hg;omega) hk rfl)) ?_;refine pA (fun hg=>(aW (by have eR:=vu hg;omega) (by have eR:=vu hg;omega))) ?_;refine lW (fun hg=>And.intro (by have eR:=vu hg;omega) (rU gX (by have eR:=vu hg;omega) hk rfl)) ?_;refine pA (fun hg=>(aW (by have eR:=vv hg;omega) (by have eR:=vv hg;omega))) ?_;refine lW (fun hg=>And.intro (by have eR:=vv hg;omega) (rU gX (by have eR:=vv hg;omega) hk rfl)) ?_;refine ord ?_;refine br (fun h1=>?_) (fun h1=>?_)
  ·have a_:=h1;try simp only[bs]at a_
   refine sd (aB zO) ?_;exact nx ⟨k-1,by omega,yd h1 (by simp only[bA,gp];exact EL _ _ _ _) hq⟩ (by show k-1<k;omega) (Le.mk rfl (.s rfl rfl (.s rfl rfl (.cons rfl (Sub.int (by dsimp only;omega)) rfl .nil))) (.cons rfl rfl .nil))
  ·refine go [4,99999] ?_;refine U.bC (Le.h_ 3 0 rfl rfl rfl rfl) ?_;refine go [99999] ?_;refine oP (rR underlying26 sizeOf102) ?_;refine oP (kp underlying26 sizeOf102 rfl (h:=k) (r:=((sorted gp l).take k).map gX) (.inl ⟨rfl,rfl⟩) (.inr ⟨_,_,rfl,rfl⟩) zO zQ (by simp[List.map_take])) ?_;refine oW (aq.ij 1 10 (t:=45) rfl (Sub.sw _ _) (dJ 2 underlying26 underlying26 sizeOf102 typeInfo102 zeroValue102 rfl (bt:=144) rfl rfl rfl rfl rfl rfl rfl zQ)) ?_;refine oP (cm (n:=1) (rows:=[gX x]) underlying26 sizeOf102 rfl rfl rfl zeroValue102 rfl rfl rfl rfl rfl rfl rfl) ?_;refine oW (dJ 3 underlying26 underlying26 sizeOf102 typeInfo102 zeroValue102 rfl (bt:=144) rfl rfl rfl rfl zS rfl rfl zQ) ?_;refine oP (kp underlying26 sizeOf102 rfl (l:=k) (r:=((sorted gp l).drop k).map gX) (.inr ⟨_,_,rfl,rfl⟩) (.inl ⟨rfl,rfl⟩) zQ zS (by rw[List.take_of_length_le zS];simp[List.map_drop])) ?_;refine oW (dJ 4 underlying26 underlying26 sizeOf102 typeInfo102 zeroValue102 rfl (bt:=144) rfl rfl rfl rfl zS rfl rfl zQ) ?_;refine ord ?_;refine U.bC (Le.freeze 4 4 rfl rfl zQ) ?_;refine U.ret (?_);exact bS (J:=[]) rfl (Sub.snap (by rw[←ye NI hk hq (yc h1 (by simp only[bA,gp];exact EL _ _ _ _))];simp))
structure ah9(l:List jT)(x:jT)where
 k:Nat
 hk:k≤(sorted gD l).length
 hq:∀j,k≤j→j<(sorted gD l).length→bA gD (at_ (sorted gD l) j) x=false
theorem ah8(l:List jT)(x:jT)(hl:l.length≤1000):Fc Tryz.prog 54 [.snap 6 false (((sorted gD l)).map iC),.agg (iC x)] (.snap 6 false ((sorted gD (l++[x])).map iC)):=by
 refine Fc.mk' [4] func54 rfl ntmps54 rfl rfl rfl (fun t w=>results_tmp results54 t _ w) ?_;have qI:=uT gD l;refine go [4,99999] ?_;refine U.loop (ι:=ah9 l x) (fun sx=>[(0,.snap 6 false (((sorted gD l)).map iC)),(3,.box 0 0),(5,.i sx.k)]) (fun sx=>[(0,.cells (iC x))]) (fun sx=>sx.k) ⟨(sorted gD l).length,Nat.le_refl _,fun j h1 h2=>by omega⟩ ?_ ?_
 ·exact Le.mk rfl (.s rfl rfl (.s rfl rfl (.cons rfl (Sub.int zS) rfl .nil))) (.cons rfl rfl .nil)
 ·rintro⟨k,hk,hq⟩;show U _ _ _ _ [(0,.snap 6 false (((sorted gD l)).map iC)),(3,.box 0 0),(5,.i k)] [(0,.cells (iC x))];refine go [4,99999] ?_;refine pA (fun hg=>(aW (by have eR:=iM hg;omega) (by have eR:=iM hg;omega))) ?_;refine lW (fun hg=>And.intro (by have eR:=iM hg;omega) (rU iC (by have eR:=iM hg;omega) hk rfl)) ?_;refine ord ?_;refine br (fun h1=>?_) (fun h1=>?_)
  ·have a_:=h1;try simp only[bs]at a_
   refine sd (aB zO) ?_;exact nx ⟨k-1,by omega,yd h1 (by simp only[bA,gD];exact uq _ _) hq⟩ (by show k-1<k;omega) (Le.mk rfl (.s rfl rfl (.s rfl rfl (.cons rfl (Sub.int (by dsimp only;omega)) rfl .nil))) (.cons rfl rfl .nil))
  ·refine go [4,99999] ?_;refine U.bC (Le.h_ 3 0 rfl rfl rfl rfl) ?_;refine go [99999] ?_;refine oP (rR underlying27 sizeOf109) ?_;refine oP (kp underlying27 sizeOf109 rfl (h:=k) (r:=((sorted gD l).take k).map iC) (.inl ⟨rfl,rfl⟩) (.inr ⟨_,_,rfl,rfl⟩) zO zQ (by simp[List.map_take])) ?_;refine oW (aq.ij 1 6 (t:=23) rfl (Sub.sw _ _) (dJ 2 underlying27 underlying27 sizeOf109 typeInfo109 zeroValue109 rfl (bt:=96) rfl rfl rfl rfl rfl rfl rfl zQ)) ?_;refine oP (cm (n:=1) (rows:=[iC x]) underlying27 sizeOf109 rfl rfl rfl zeroValue109 rfl rfl rfl rfl rfl rfl rfl) ?_;refine oW (dJ 3 underlying27 underlying27 sizeOf109 typeInfo109 zeroValue109 rfl (bt:=96) rfl rfl rfl rfl zS rfl rfl zQ) ?_;refine oP (kp underlying27 sizeOf109 rfl (l:=k) (r:=((sorted gD l).drop k).map iC) (.inr ⟨_,_,rfl,rfl⟩) (.inl ⟨rfl,rfl⟩) zQ zS (by rw[List.take_of_length_le zS];simp[List.map_drop])) ?_;refine oW (dJ 4 underlying27 underlying27 sizeOf109 typeInfo109 zeroValue109 rfl (bt:=96) rfl rfl rfl rfl zS rfl rfl zQ) ?_;refine ord ?_;refine U.bC (Le.freeze 4 4 rfl rfl zQ) ?_;refine U.ret (?_);exact bS (J:=[]) rfl (Sub.snap (by rw[←ye NM hk hq (yc h1 (by simp only[bA,gD];exact uq _ _))];simp))
structure ahX(l:List jw)(x:jw)where
 k:Nat
 hk:k≤(sorted gn l).length
 hq:∀j,k≤j→j<(sorted gn l).length→bA gn (at_ (sorted gn l) j) x=false
theorem ahW(l:List jw)(x:jw)(hl:l.length≤1000):Fc Tryz.prog 55 [.snap 7 false (((sorted gn l)).map ei),.agg (ei x)] (.snap 7 false ((sorted gn (l++[x])).map ei)):=by
 refine Fc.mk' [4] func55 rfl ntmps55 rfl rfl rfl (fun t w=>results_tmp results55 t _ w) ?_;have qI:=uT gn l;refine go [4,99999] ?_;refine U.loop (ι:=ahX l x) (fun sx=>[(0,.snap 7 false (((sorted gn l)).map ei)),(3,.box 0 0),(5,.i sx.k)]) (fun sx=>[(0,.cells (ei x))]) (fun sx=>sx.k) ⟨(sorted gn l).length,Nat.le_refl _,fun j h1 h2=>by omega⟩ ?_ ?_
 ·exact Le.mk rfl (.s rfl rfl (.s rfl rfl (.cons rfl (Sub.int zS) rfl .nil))) (.cons rfl rfl .nil)
 ·rintro⟨k,hk,hq⟩;show U _ _ _ _ [(0,.snap 7 false (((sorted gn l)).map ei)),(3,.box 0 0),(5,.i k)] [(0,.cells (ei x))];refine go [4,99999] ?_;refine pA (fun hg=>(aW (by have eR:=iM hg;omega) (by have eR:=iM hg;omega))) ?_;refine lW (fun hg=>And.intro (by have eR:=iM hg;omega) (rU ei (by have eR:=iM hg;omega) hk rfl)) ?_;refine pA (fun hg=>(aW (by have eR:=vu hg;omega) (by have eR:=vu hg;omega))) ?_;refine lW (fun hg=>And.intro (by have eR:=vu hg;omega) (rU ei (by have eR:=vu hg;omega) hk rfl)) ?_;refine pA (fun hg=>(aW (by have eR:=vv hg;omega) (by have eR:=vv hg;omega))) ?_;refine lW (fun hg=>And.intro (by have eR:=vv hg;omega) (rU ei (by have eR:=vv hg;omega) hk rfl)) ?_;refine ord ?_;refine br (fun h1=>?_) (fun h1=>?_)
  ·have a_:=h1;try simp only[bs]at a_
   refine sd (aB zO) ?_;exact nx ⟨k-1,by omega,yd h1 (by simp only[bA,gn];exact EL _ _ _ _) hq⟩ (by show k-1<k;omega) (Le.mk rfl (.s rfl rfl (.s rfl rfl (.cons rfl (Sub.int (by dsimp only;omega)) rfl .nil))) (.cons rfl rfl .nil))
  ·refine go [4,99999] ?_;refine U.bC (Le.h_ 3 0 rfl rfl rfl rfl) ?_;refine go [99999] ?_;refine oP (rR underlying28 sizeOf115) ?_;refine oP (kp underlying28 sizeOf115 rfl (h:=k) (r:=((sorted gn l).take k).map ei) (.inl ⟨rfl,rfl⟩) (.inr ⟨_,_,rfl,rfl⟩) zO zQ (by simp[List.map_take])) ?_;refine oW (aq.ij 1 7 (t:=45) rfl (Sub.sw _ _) (dJ 2 underlying28 underlying28 sizeOf115 typeInfo115 zeroValue115 rfl (bt:=104) rfl rfl rfl rfl rfl rfl rfl zQ)) ?_;refine oP (cm (n:=1) (rows:=[ei x]) underlying28 sizeOf115 rfl rfl rfl zeroValue115 rfl rfl rfl rfl rfl rfl rfl) ?_;refine oW (dJ 3 underlying28 underlying28 sizeOf115 typeInfo115 zeroValue115 rfl (bt:=104) rfl rfl rfl rfl zS rfl rfl zQ) ?_;refine oP (kp underlying28 sizeOf115 rfl (l:=k) (r:=((sorted gn l).drop k).map ei) (.inr ⟨_,_,rfl,rfl⟩) (.inl ⟨rfl,rfl⟩) zQ zS (by rw[List.take_of_length_le zS];simp[List.map_drop])) ?_;refine oW (dJ 4 underlying28 underlying28 sizeOf115 typeInfo115 zeroValue115 rfl (bt:=104) rfl rfl rfl rfl zS rfl rfl zQ) ?_;refine ord ?_;refine U.bC (Le.freeze 4 4 rfl rfl zQ) ?_;refine U.ret (?_);exact bS (J:=[]) rfl (Sub.snap (by rw[←ye NF hk hq (yc h1 (by simp only[bA,gn];exact EL _ _ _ _))];simp))
structure ah7(l:List jS)(x:jS)where
 k:Nat
 hk:k≤(sorted gC l).length
 hq:∀j,k≤j→j<(sorted gC l).length→bA gC (at_ (sorted gC l) j) x=false
theorem ah6(l:List jS)(x:jS)(hl:l.length≤1000):Fc Tryz.prog 56 [.snap 2 false (((sorted gC l)).map iB),.agg (iB x)] (.snap 2 false ((sorted gC (l++[x])).map iB)):=by
 refine Fc.mk' [4] func56 rfl ntmps56 rfl rfl rfl (fun t w=>results_tmp results56 t _ w) ?_;have qI:=uT gC l;refine go [4,99999] ?_;refine U.loop (ι:=ah7 l x) (fun sx=>[(0,.snap 2 false (((sorted gC l)).map iB)),(3,.box 0 0),(5,.i sx.k)]) (fun sx=>[(0,.cells (iB x))]) (fun sx=>sx.k) ⟨(sorted gC l).length,Nat.le_refl _,fun j h1 h2=>by omega⟩ ?_ ?_
 ·exact Le.mk rfl (.s rfl rfl (.s rfl rfl (.cons rfl (Sub.int zS) rfl .nil))) (.cons rfl rfl .nil)
 ·rintro⟨k,hk,hq⟩;show U _ _ _ _ [(0,.snap 2 false (((sorted gC l)).map iB)),(3,.box 0 0),(5,.i k)] [(0,.cells (iB x))];refine go [4,99999] ?_;refine pA (fun hg=>(aW (by have eR:=iM hg;omega) (by have eR:=iM hg;omega))) ?_;refine lW (fun hg=>And.intro (by have eR:=iM hg;omega) (rU iB (by have eR:=iM hg;omega) hk rfl)) ?_;refine ord ?_;refine br (fun h1=>?_) (fun h1=>?_)
  ·have a_:=h1;try simp only[bs]at a_
   refine sd (aB zO) ?_;exact nx ⟨k-1,by omega,yd h1 (by simp only[bA,gC];exact uq _ _) hq⟩ (by show k-1<k;omega) (Le.mk rfl (.s rfl rfl (.s rfl rfl (.cons rfl (Sub.int (by dsimp only;omega)) rfl .nil))) (.cons rfl rfl .nil))
  ·refine go [4,99999] ?_;refine U.bC (Le.h_ 3 0 rfl rfl rfl rfl) ?_;refine go [99999] ?_;refine oP (rR underlying29 sizeOf120) ?_;refine oP (kp underlying29 sizeOf120 rfl (h:=k) (r:=((sorted gC l).take k).map iB) (.inl ⟨rfl,rfl⟩) (.inr ⟨_,_,rfl,rfl⟩) zO zQ (by simp[List.map_take])) ?_;refine oW (aq.ij 1 2 (t:=23) rfl (Sub.sw _ _) (dJ 2 underlying29 underlying29 sizeOf120 typeInfo120 zeroValue120 rfl (bt:=24) rfl rfl rfl rfl rfl rfl rfl zQ)) ?_;refine oP (cm (n:=1) (rows:=[iB x]) underlying29 sizeOf120 rfl rfl rfl zeroValue120 rfl rfl rfl rfl rfl rfl rfl) ?_;refine oW (dJ 3 underlying29 underlying29 sizeOf120 typeInfo120 zeroValue120 rfl (bt:=24) rfl rfl rfl rfl zS rfl rfl zQ) ?_;refine oP (kp underlying29 sizeOf120 rfl (l:=k) (r:=((sorted gC l).drop k).map iB) (.inr ⟨_,_,rfl,rfl⟩) (.inl ⟨rfl,rfl⟩) zQ zS (by rw[List.take_of_length_le zS];simp[List.map_drop])) ?_;refine oW (dJ 4 underlying29 underlying29 sizeOf120 typeInfo120 zeroValue120 rfl (bt:=24) rfl rfl rfl rfl zS rfl rfl zQ) ?_;refine ord ?_;refine U.bC (Le.freeze 4 4 rfl rfl zQ) ?_;refine U.ret (?_);exact bS (J:=[]) rfl (Sub.snap (by rw[←ye NL hk hq (yc h1 (by simp only[bA,gC];exact uq _ _))];simp))
structure ahZ(l:List j6)(x:j6)where
 k:Nat
 hk:k≤(sorted gz l).length
 hq:∀j,k≤j→j<(sorted gz l).length→bA gz (at_ (sorted gz l) j) x=false
theorem ahY(l:List j6)(x:j6)(hl:l.length≤1000):Fc Tryz.prog 57 [.snap 3 false (((sorted gz l)).map hZ),.agg (hZ x)] (.snap 3 false ((sorted gz (l++[x])).map hZ)):=by
 refine Fc.mk' [4] func57 rfl ntmps57 rfl rfl rfl (fun t w=>results_tmp results57 t _ w) ?_;have qI:=uT gz l;refine go [4,99999] ?_;refine U.loop (ι:=ahZ l x) (fun sx=>[(0,.snap 3 false (((sorted gz l)).map hZ)),(3,.box 0 0),(5,.i sx.k)]) (fun sx=>[(0,.cells (hZ x))]) (fun sx=>sx.k) ⟨(sorted gz l).length,Nat.le_refl _,fun j h1 h2=>by omega⟩ ?_ ?_
 ·exact Le.mk rfl (.s rfl rfl (.s rfl rfl (.cons rfl (Sub.int zS) rfl .nil))) (.cons rfl rfl .nil)
 ·rintro⟨k,hk,hq⟩;show U _ _ _ _ [(0,.snap 3 false (((sorted gz l)).map hZ)),(3,.box 0 0),(5,.i k)] [(0,.cells (hZ x))];refine go [4,99999] ?_;refine pA (fun hg=>(aW (by have eR:=iM hg;omega) (by have eR:=iM hg;omega))) ?_;refine lW (fun hg=>And.intro (by have eR:=iM hg;omega) (rU hZ (by have eR:=iM hg;omega) hk rfl)) ?_;refine gP (fun hg=>aj call88 rfl (Yc _ _)) ?_;refine ord ?_;refine br (fun h1=>?_) (fun h1=>?_)
  ·have a_:=h1;try simp only[bs]at a_
   refine sd (aB zO) ?_;exact nx ⟨k-1,by omega,yd h1 (PW _ _) hq⟩ (by show k-1<k;omega) (Le.mk rfl (.s rfl rfl (.s rfl rfl (.cons rfl (Sub.int (by dsimp only;omega)) rfl .nil))) (.cons rfl rfl .nil))
  ·refine go [4,99999] ?_;refine U.bC (Le.h_ 3 0 rfl rfl rfl rfl) ?_;refine go [99999] ?_;refine oP (rR underlying32 sizeOf45) ?_;refine oP (kp underlying32 sizeOf45 rfl (h:=k) (r:=((sorted gz l).take k).map hZ) (.inl ⟨rfl,rfl⟩) (.inr ⟨_,_,rfl,rfl⟩) zO zQ (by simp[List.map_take])) ?_;refine oW (aq.ij 1 3 (t:=22) rfl (Sub.sw _ _) (dJ 2 underlying32 underlying32 sizeOf45 typeInfo45 zeroValue45 rfl (bt:=48) rfl rfl rfl rfl rfl rfl rfl zQ)) ?_;refine oP (cm (n:=1) (rows:=[hZ x]) underlying32 sizeOf45 rfl rfl rfl zeroValue45 rfl rfl rfl rfl rfl rfl rfl) ?_;refine oW (dJ 3 underlying32 underlying32 sizeOf45 typeInfo45 zeroValue45 rfl (bt:=48) rfl rfl rfl rfl zS rfl rfl zQ) ?_;refine oP (kp underlying32 sizeOf45 rfl (l:=k) (r:=((sorted gz l).drop k).map hZ) (.inr ⟨_,_,rfl,rfl⟩) (.inl ⟨rfl,rfl⟩) zQ zS (by rw[List.take_of_length_le zS];simp[List.map_drop])) ?_;refine oW (dJ 4 underlying32 underlying32 sizeOf45 typeInfo45 zeroValue45 rfl (bt:=48) rfl rfl rfl rfl zS rfl rfl zQ) ?_;refine ord ?_;refine U.bC (Le.freeze 4 4 rfl rfl zQ) ?_;refine U.ret (?_);exact bS (J:=[]) rfl (Sub.snap (by rw[←ye NG hk hq (yc h1 (PW _ _))];simp))
theorem MM(a b:ae){k:Nat}(ha:a.length≤k)(hb:b.length≤k):(ma a b).length≤k+2:=by
 have h1:=GJ a;have h2:=GJ b;have h3:10^a.length≤10^k:=Nat.pow_le_pow_right zO ha;have h4:10^b.length≤10^k:=Nat.pow_le_pow_right zO hb;have h5:10^(k+1)=10^k*10:=Nat.pow_succ ..;unfold ma;exact Tn (k:=k+1) zO zO
theorem Vm{out q:List bj}{m z:bj}{R:List bj}(h:out++oO m (z::q)=R)(e:z.cur=m.cur):out++oO ⟨m.cur,ma m.cV z.cV⟩ q=R:=by rw[←h,akC e]
theorem Gw{out q:List bj}{m:bj}{R:List bj}(h:out++oO m q=R)(hn:∀x r,q=x::r→x.cur≠m.cur)(e:m.cV≠[]):(out++[m])++lM q=R:=by rw[←h,Vl hn,if_neg e];simp
theorem Gv{out q:List bj}{m:bj}{R:List bj}(h:out++oO m q=R)(hn:∀x r,q=x::r→x.cur≠m.cur)(e:m.cV=[]):out++lM q=R:=by rw[←h,Vl hn,if_pos e];simp
theorem FL{m:bj}{q:List bj}(h:q=[]):∀x r,q=x::r→x.cur≠m.cur:=fun x r e=>by rw[h]at e;cases e
theorem FK{m z:bj}{q:List bj}(h:z.cur≠m.cur):∀x r,z::q=x::r→x.cur≠m.cur:=fun x r e=>by rw[List.cons.injEq]at e;rw[←e.1];exact h
structure akE(l:List bj)where
 out:List bj
 r:List bj
 hr:out++lM r=lM l
 hn:r.length+out.length≤l.length
 hm:∀y∈r,y.cV.length≤20
structure akF(l:List bj)(out r:List bj)where
 m:bj
 q:List bj
 hq:out++oO m q=lM l
 hqn:q.length+out.length+1≤l.length
 BM:m.cV.length≤20+2*(l.length-q.length)
 vG:∀y∈q,y.cV.length≤20
 zF:q.length≤r.length
theorem akD(l:List bj)(hl:l.length≤1000)(hs:∀y∈l,y.cV.length≤20):Fc Tryz.prog 30 [ew l] (ew (lM l)):=by
 refine Fc.mk' [2] func30 rfl ntmps30 rfl rfl rfl (fun t w=>results_tmp results30 t _ w) ?_;refine go [99999] ?_;refine U.loop (ι:=akE l) (fun sx=>[(0,ew sx.r),(3,.gs 0 sx.out.length)]) (fun sx=>[(0,.arr 2 (sx.out.map bU))]) (fun sx=>sx.r.length) ⟨[],l,by simp,by simp,hs⟩ ?_ ?_
 ·exact(Le.ij 0 2).trans<|Le.mk rfl (.s rfl rfl (.cons rfl (Sub.qv _) rfl .nil)) (.arr rfl (by rfl) .nil)
 ·rintro⟨out,r,hr,hn,hm⟩;show U _ _ _ _ [(0,ew r),(3,.gs 0 out.length)] [(0,.arr 2 (out.map bU))];rcases r with _|⟨x,r⟩
  ·skip;refine go [99999] ?_;refine aQ zS ?_;refine go [99999] ?_;refine U.bC (Le.freeze 2 0 rfl rfl zS) ?_;refine U.ret (?_);exact bS (J:=[]) rfl (Sub.snap (by rw[←hr];simp[lM]))
  ·skip;refine go [99999] ?_;refine bM zS ?_;refine ix zD rfl ?_;refine oP (kp underlying25 sizeOf39 rfl (l:=1) (r:=r.map bU) (.inr ⟨_,_,rfl,rfl⟩) (.inl ⟨rfl,rfl⟩) zS zS (List.take_of_length_le zS)) ?_;refine U.loop (ι:=akF l out r) (fun sx=>[(0,ew sx.q),(3,.gs 0 out.length),(4,.box 1 0)]) (fun sx=>[(0,.arr 2 (out.map bU)),(1,.cells (bU sx.m))]) (fun sx=>sx.q.length) ⟨x,r,hr,by(simp at*;omega),by have:=hm x zS;omega,fun y hy=>hm y (by simp[hy]),Nat.le_refl _⟩ ?_ ?_
   ·exact Le.mk rfl (.s rfl rfl (.cons rfl (Sub.gs zS) rfl (.s rfl rfl .nil))) (.arr rfl (by rfl) (.cons rfl rfl .nil))
   ·rintro⟨m,q,hq,hqn,BM,vG,zF⟩;show U _ _ _ _ [(0,ew q),(3,.gs 0 out.length),(4,.box 1 0)] [(0,.arr 2 (out.map bU)),(1,.cells (bU m))];rcases q with _|⟨z,q⟩
    ·skip;refine go [99999] ?_;refine lW (fun hg=>And.intro zD (show _=some (bU default)from absurd (show false=true from hg) zD)) ?_;refine ord ?_;refine aQ (rfl) ?_;refine go [99999] ?_;refine br (fun h1=>?_) (fun h1=>?_)
     ·refine oP (cm (n:=1) (rows:=[bU m]) underlying25 sizeOf39 rfl rfl rfl zeroValue39 rfl rfl rfl rfl rfl rfl rfl) ?_;refine oW (dJ 2 underlying25 underlying25 sizeOf39 typeInfo39 zeroValue39 rfl (bt:=32) rfl rfl rfl rfl zS rfl rfl (by simp at*;omega)) ?_;refine U.nil (dx ?_);exact⟨⟨out++[m],[],Gw hq (FL rfl) (by simp_all),by(simp;omega),vG⟩,by(simp at*;done),(Le.mk (ai:=[(2,_)]) rfl (show du _ _ [(0,_),(3,_)]from(.s rfl rfl (.s rfl rfl .nil))) (.cons (i:=2) rfl rfl .nil)).trans<|(Le.j4 3 2 0 rfl rfl zS rfl).trans<|Le.mk rfl (.s rfl rfl (.cons rfl (Sub.gs zS) rfl .nil)) (.arr rfl zS .nil)⟩
     ·refine U.nil (dx ?_);exact⟨⟨out,[],Gv hq (FL rfl) (by simp_all),by omega,vG⟩,by(simp at*;done),Le.mk rfl (.s rfl rfl (.cons rfl (Sub.gs zS) rfl .nil)) (.arr rfl (by rfl) .nil)⟩
    ·have h7:=vG z zS;refine go [99999] ?_;refine lW (fun hg=>And.intro zD rfl) ?_;refine ord ?_;refine br (fun h2=>?_) (fun h2=>?_)
     ·refine ix zD rfl ?_;refine oP (aj call76 rfl (MP _ _ (by simp at*;omega) (by simp at*;omega))) ?_;refine ord ?_;refine oP (kp underlying25 sizeOf39 rfl (l:=1) (r:=q.map bU) (.inr ⟨_,_,rfl,rfl⟩) (.inl ⟨rfl,rfl⟩) zS zS (List.take_of_length_le zS)) ?_;exact nx ⟨⟨m.cur,ma m.cV z.cV⟩,q,Vm hq (by simp_all),by simp at*;omega,by have h9:=vG z zS;have h8:=MM m.cV z.cV BM zO;simp at*;omega,fun y hy=>vG y (by simp[hy]),by simp at*;omega⟩ zS (Le.mk rfl (.s rfl rfl (.cons rfl (Sub.gs zS) rfl (.s rfl rfl .nil))) (.arr rfl (by rfl) (.cons rfl rfl .nil)))
     ·refine go [99999] ?_;refine br (fun h3=>?_) (fun h3=>?_)
      ·refine oP (cm (n:=1) (rows:=[bU m]) underlying25 sizeOf39 rfl rfl rfl zeroValue39 rfl rfl rfl rfl rfl rfl rfl) ?_;refine oW (dJ 2 underlying25 underlying25 sizeOf39 typeInfo39 zeroValue39 rfl (bt:=32) rfl rfl rfl rfl zS rfl rfl (by simp at*;omega)) ?_;refine U.nil (dx ?_);exact⟨⟨out++[m],(z::q),Gw hq (FK (by simp_all)) (by simp_all),by(simp;omega),vG⟩,by(simp at*;omega),(Le.mk (ai:=[(2,_)]) rfl (show du _ _ [(0,_),(3,_)]from(.s rfl rfl (.s rfl rfl .nil))) (.cons (i:=2) rfl rfl .nil)).trans<|(Le.j4 3 2 0 rfl rfl zS rfl).trans<|Le.mk rfl (.s rfl rfl (.cons rfl (Sub.gs zS) rfl .nil)) (.arr rfl zS .nil)⟩
      ·refine U.nil (dx ?_);exact⟨⟨out,(z::q),Gv hq (FK (by simp_all)) (by simp_all),by omega,vG⟩,by(simp at*;omega),Le.mk rfl (.s rfl rfl (.cons rfl (Sub.gs zS) rfl .nil)) (.arr rfl (by rfl) .nil)⟩
end Go.T
