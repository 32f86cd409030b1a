/- Contracts of functions that the statement reaches, and the logic in which they are proved (no condition). -/
import Derived.Test.YtapflgppmigcdaaGreatDoorA16
set_option linter.all false
set_option maxRecDepth 20000
namespace Go.T
open Go Go.Proofs Go.Proofs.Tryz
def Ut(n:Nat)(h0:n≠0)(hn:n<=100000):dB prog 49 [.raw (.slice none 0 0),.i n] [] (.gr 7800 0) [(7800,.res 21)]:=by
 refine uF func49 ntmps49 results49 ?_;refine U.seq<|rg<|.ag rfl rfl<|.nil<|U.seq<|U.seq<|rg<|.mv rfl rfl<|.P rfl (bp rfl rfl)<|.nil<|U.c6 rfl zS<|U.skip<|U.seq<|U.seq<|rg<|.mv rfl rfl<|.mv rfl rfl<|.P rfl (Pr underlying31 rfl)<|.mv rfl rfl<|.P rfl (Pw underlying31 rfl)<|.P rfl (dx rfl rfl (ao zO))<|.P rfl (dx rfl rfl (ao zO))<|.ag rfl rfl<|.nil<|U.seq<|rg<|.mv rfl rfl<|.P rfl (gE rfl rfl)<|.nil<|U.ew rfl zQ<|rg<|.mv rfl rfl<|.mv rfl rfl<|.P rfl (Pr underlying31 rfl)<|.P rfl (apD underlying31 sizeOf39 rfl rfl)<|.mv rfl rfl<|.W rfl (ao7 (n:=n) (bt:=312) 7800 underlying31 underlying3 sizeOf39 typeInfo39 zeroValue39 rfl zD rfl rfl rfl zS h0 zO zO rfl)<|.mv rfl rfl<|.P rfl (Pw underlying31 rfl)<|.P rfl (apA underlying31 sizeOf39 rfl rfl)<|.ag rfl rfl<|.nil<|U.seq<|rg<|.mv rfl rfl<|.ag rfl rfl<|.nil<|U.ret (?_);exact ua rfl (by exact Sub.refl _) (.cons rfl rfl .nil)
def aiC:Fc prog 49 [.raw (.slice none 0 0),.i 0] (.raw (.slice none 0 0)):=by
 refine ay func49 ntmps49 results49 ?_;exact go []<|aH (rfl)<|oP (Pr underlying31 rfl)<|sd (ao zO)<|sd (ao zO)<|aH (rfl)<|af rfl (by exact Sub.refl _)
def Sub.Ml{i n m:Nat}{d:D}(hd:d=.gs i m)(h:n=m):Sub (.gs i n) d:=by subst hd;subst h;exact Sub.refl _
@[reducible] def jO{α:Type}(k:Nat)(x y z:α):α:=match k with
 |0=>x
 |1=>y
 |_=>z
structure aef(a b:List Fact)where
 k:Nat
 hk:k<=2
structure aeg(a b:List Fact)where
 k:Nat
 hk:k<=2
def aee(a b:List Fact)(pU:a.length<=1000)(pW:b.length<=1000)(h0:a.length≠0):Fc prog 17 [.snap 1 true [[aQ a],[aQ b]]] (aQ (a++b)):=by
 refine ay func17 ntmps17 results17 ?_;refine U.seq<|rg<|.ag rfl rfl<|.nil<|U.seq<|rg<|.ag rfl rfl<|.nil<|U.seq<|U.seq<|rg<|.mv rfl rfl<|.P rfl (cv underlying78 rfl)<|.mv rfl rfl<|.nil<|U.block<|U.loop (ι:=aef a b) (fun sx=>[(0,.snap 1 true [[aQ a],[aQ b]]),(3,.i (jO sx.k 0 (a.length:Int) ((a.length:Int)+b.length))),(9,.snap 1 true [[aQ a],[aQ b]]),(10,.i 2),(11,.i sx.k)]) (fun sx=>[]) (fun sx=>2-sx.k) ⟨0,by omega⟩ ?_ ?_
 ·exact Le.mk rfl (.n 5 rfl rfl .nil) .nil
 ·rintro⟨k,hk⟩;dsimp only;rcases k with _|_|_|k
  ·dsimp only[jO];refine U.seq<|rg<|.P rfl (bp rfl rfl)<|.nil<|U.seq<|U.ew rfl (rfl)<|U.skip<|U.seq<|U.block<|U.seq<|rg<|.P rfl (eC underlying78 sizeOf31 rfl rfl zD rfl)<|.P rfl (bE isAgg31 rfl)<|.ag rfl rfl<|.nil<|U.seq<|rg<|.mv rfl rfl<|.mv rfl rfl<|.P rfl (cv underlying31 rfl)<|.P rfl (bx rfl rfl (cT zS zQ))<|.ag rfl rfl<|.nil<|U.seq<|rg<|.mv rfl rfl<|.P rfl (bp rfl rfl)<|.nil<|U.c6 rfl zS<|U.skip<|U.nil (bR ?_);refine rg<|.P rfl (bx rfl rfl (ao zO))<|.mv rfl rfl<|.nil<|U.nil (cz ?_);exact⟨⟨1,by omega⟩,by dsimp only;omega,Le.mk rfl (.s rfl rfl (.cons rfl (Sub.int (by simp[jO])) rfl (.n 3 rfl rfl .nil))) .nil⟩
  ·dsimp only[jO];refine U.seq<|rg<|.P rfl (bp rfl rfl)<|.nil<|U.seq<|U.ew rfl (rfl)<|U.skip<|U.seq<|U.block<|U.seq<|rg<|.P rfl (eC underlying78 sizeOf31 rfl rfl zD rfl)<|.P rfl (bE isAgg31 rfl)<|.ag rfl rfl<|.nil<|U.seq<|rg<|.mv rfl rfl<|.mv rfl rfl<|.P rfl (cv underlying31 rfl)<|.P rfl (bx rfl rfl (cT zQ zQ))<|.ag rfl rfl<|.nil<|U.seq<|rg<|.mv rfl rfl<|.P rfl (bp rfl rfl)<|.nil<|U.c6 rfl zQ<|U.skip<|U.nil (bR ?_);refine rg<|.P rfl (bx rfl rfl (ao zO))<|.mv rfl rfl<|.nil<|U.nil (cz ?_);exact⟨⟨2,by omega⟩,by dsimp only;omega,Le.mk rfl (.s rfl rfl (.cons rfl (Sub.int (by simp[jO])) rfl (.n 3 rfl rfl .nil))) .nil⟩
  ·dsimp only[jO];refine U.seq<|rg<|.P rfl (bp rfl rfl)<|.nil<|U.seq<|U.c6 rfl (rfl)<|U.exit (dz (du ?_));refine U.seq<|rg<|.mv rfl rfl<|.W rfl (gv call49 rfl (Ut (a.length+b.length) zO zO) .nil rfl rfl)<|.ag rfl rfl<|.nil<|U.seq<|U.seq<|rg<|.mv rfl rfl<|.P rfl (cv underlying78 rfl)<|.mv rfl rfl<|.nil<|U.block<|U.loop (ι:=aeg a b) (fun sx=>[(6,(jO sx.k (.gr 7800 0) (.gs 7801 a.length) (.gs 7801 (a.length+b.length)))),(25,.snap 1 true [[aQ a],[aQ b]]),(26,.i 2),(27,.i sx.k)]) (fun sx=>[(7800,(jO sx.k (.res 21) (.dead) .dead)),(7801,.arr 21 (jO sx.k [] (a.map aJ) (a.map aJ++b.map aJ)))]) (fun sx=>2-sx.k) ⟨0,by omega⟩ ?_ ?_
   ·exact(Le.gC 7801 21).trans<|Le.mk rfl (.cons rfl (by exact Sub.refl _) rfl (.n 3 rfl rfl .nil)) (.cons rfl rfl (.arr rfl (by rfl) .nil))
   ·rintro⟨k,hk⟩;dsimp only;rcases k with _|_|_|k
    ·dsimp only[jO];refine U.seq<|rg<|.P rfl (bp rfl rfl)<|.nil<|U.seq<|U.ew rfl (rfl)<|U.skip<|U.seq<|U.block<|U.seq<|rg<|.P rfl (eC underlying78 sizeOf31 rfl rfl zD rfl)<|.P rfl (bE isAgg31 rfl)<|.ag rfl rfl<|.nil<|rg<|.mv rfl rfl<|.mv rfl rfl<|.W rfl (ZB (bt:=312) 7802 underlying31 underlying31 sizeOf39 typeInfo39 zeroValue39 rfl rfl rfl rfl rfl rfl (by simp;intro h;simp[h]at*) rfl zQ)<|.ag rfl rfl<|.nil<|U.nil (bR ?_);refine rg<|.P rfl (bx rfl rfl (ao zO))<|.mv rfl rfl<|.nil<|U.nil (cz ?_);exact⟨⟨1,by omega⟩,by dsimp only;omega,(Le.mk (aj:=[(7800,_),(7802,_)]) rfl (show ct _ _ [(6,_),(25,_),(26,_),(27,_)]from(.n 4 rfl rfl .nil)) (.cons (i:=7800) rfl rfl (.cons (i:=7802) rfl rfl .nil))).trans<|(Le.iz 6 7802 7801 rfl rfl zS rfl).trans<|Le.mk rfl (.cons rfl (by exact Sub.Ml rfl zS) rfl (.n 3 rfl rfl .nil)) (.cons rfl rfl (.arr rfl (by rfl) .nil))⟩
    ·dsimp only[jO];refine U.seq<|rg<|.P rfl (bp rfl rfl)<|.nil<|U.seq<|U.ew rfl (rfl)<|U.skip<|U.seq<|U.block<|U.seq<|rg<|.P rfl (eC underlying78 sizeOf31 rfl rfl zD rfl)<|.P rfl (bE isAgg31 rfl)<|.ag rfl rfl<|.nil<|rg<|.mv rfl rfl<|.mv rfl rfl<|.W rfl (ee 7802 underlying31 underlying31 sizeOf39 typeInfo39 zeroValue39 rfl (bt:=312) rfl rfl rfl rfl zS rfl rfl zQ)<|.ag rfl rfl<|.nil<|U.nil (bR ?_);refine rg<|.P rfl (bx rfl rfl (ao zO))<|.mv rfl rfl<|.nil<|U.nil (cz ?_);exact⟨⟨2,by omega⟩,by dsimp only;omega,(Le.mk (aj:=[(7800,_),(7802,_)]) rfl (show ct _ _ [(6,_),(25,_),(26,_),(27,_)]from(.n 4 rfl rfl .nil)) (.cons (i:=7800) rfl rfl (.cons (i:=7802) rfl rfl .nil))).trans<|(Le.iz 6 7802 7801 rfl rfl zS rfl).trans<|Le.mk rfl (.cons rfl (by exact Sub.Ml rfl zS) rfl (.n 3 rfl rfl .nil)) (.cons rfl rfl (.arr rfl (by rfl) .nil))⟩
    ·dsimp only[jO];refine U.seq<|rg<|.P rfl (bp rfl rfl)<|.nil<|U.seq<|U.c6 rfl (rfl)<|U.exit (dz (du ?_));refine U.seq<|rg<|.mv rfl rfl<|.ag rfl rfl<|.nil ?_;refine U.bc (Le.freeze 2 7801 rfl rfl zS) ?_;refine U.ret (?_);exact dt rfl (Sub.snap zS)
    ·omega
  ·omega
structure aei(b:List Fact)where
 k:Nat
 hk:k<=2
structure aej(b:List Fact)where
 k:Nat
 hk:k<=2
def aeh(b:List Fact)(pW:b.length<=1000)(h0:b.length≠0):Fc prog 17 [.snap 1 true [[aQ ([]:List Fact)],[aQ b]]] (aQ b):=by
 refine ay func17 ntmps17 results17 ?_;refine U.seq<|rg<|.ag rfl rfl<|.nil<|U.seq<|rg<|.ag rfl rfl<|.nil<|U.seq<|U.seq<|rg<|.mv rfl rfl<|.P rfl (cv underlying78 rfl)<|.mv rfl rfl<|.nil<|U.block<|U.loop (ι:=aei b) (fun sx=>[(0,.snap 1 true [[aQ ([]:List Fact)],[aQ b]]),(3,.i (jO sx.k 0 0 (b.length:Int))),(9,.snap 1 true [[aQ ([]:List Fact)],[aQ b]]),(10,.i 2),(11,.i sx.k)]) (fun sx=>[]) (fun sx=>2-sx.k) ⟨0,by omega⟩ ?_ ?_
 ·exact Le.mk rfl (.n 5 rfl rfl .nil) .nil
 ·rintro⟨k,hk⟩;dsimp only;rcases k with _|_|_|k
  ·dsimp only[jO];refine U.seq<|rg<|.P rfl (bp rfl rfl)<|.nil<|U.seq<|U.ew rfl (rfl)<|U.skip<|U.seq<|U.block<|U.seq<|rg<|.P rfl (eC underlying78 sizeOf31 rfl rfl zD rfl)<|.P rfl (bE isAgg31 rfl)<|.ag rfl rfl<|.nil<|U.seq<|rg<|.mv rfl rfl<|.mv rfl rfl<|.P rfl (cv underlying31 rfl)<|.P rfl (bx rfl rfl (cT zS zS))<|.ag rfl rfl<|.nil<|U.seq<|rg<|.mv rfl rfl<|.P rfl (bp rfl rfl)<|.nil<|U.c6 rfl zS<|U.skip<|U.nil (bR ?_);refine rg<|.P rfl (bx rfl rfl (ao zO))<|.mv rfl rfl<|.nil<|U.nil (cz ?_);exact⟨⟨1,by omega⟩,by dsimp only;omega,Le.mk rfl (.n 5 rfl rfl .nil) .nil⟩
  ·dsimp only[jO];refine U.seq<|rg<|.P rfl (bp rfl rfl)<|.nil<|U.seq<|U.ew rfl (rfl)<|U.skip<|U.seq<|U.block<|U.seq<|rg<|.P rfl (eC underlying78 sizeOf31 rfl rfl zD rfl)<|.P rfl (bE isAgg31 rfl)<|.ag rfl rfl<|.nil<|U.seq<|rg<|.mv rfl rfl<|.mv rfl rfl<|.P rfl (cv underlying31 rfl)<|.P rfl (bx rfl rfl (cT zS zQ))<|.ag rfl rfl<|.nil<|U.seq<|rg<|.mv rfl rfl<|.P rfl (bp rfl rfl)<|.nil<|U.c6 rfl zS<|U.skip<|U.nil (bR ?_);refine rg<|.P rfl (bx rfl rfl (ao zO))<|.mv rfl rfl<|.nil<|U.nil (cz ?_);exact⟨⟨2,by omega⟩,by dsimp only;omega,Le.mk rfl (.s rfl rfl (.cons rfl (Sub.int (by simp[jO])) rfl (.n 3 rfl rfl .nil))) .nil⟩
  ·dsimp only[jO];refine U.seq<|rg<|.P rfl (bp rfl rfl)<|.nil<|U.seq<|U.c6 rfl (rfl)<|U.exit (dz (du ?_));refine U.seq<|rg<|.mv rfl rfl<|.W rfl (gv call49 rfl (Ut b.length h0 zO) .nil rfl rfl)<|.ag rfl rfl<|.nil<|U.seq<|U.seq<|rg<|.mv rfl rfl<|.P rfl (cv underlying78 rfl)<|.mv rfl rfl<|.nil<|U.block<|U.loop (ι:=aej b) (fun sx=>[(6,(jO sx.k (.gr 7800 0) (.gr 7800 0) (.gs 7801 b.length))),(25,.snap 1 true [[aQ ([]:List Fact)],[aQ b]]),(26,.i 2),(27,.i sx.k)]) (fun sx=>[(7800,(jO sx.k (.res 21) (.res 21) .dead)),(7801,.arr 21 (jO sx.k [] [] (b.map aJ)))]) (fun sx=>2-sx.k) ⟨0,by omega⟩ ?_ ?_
   ·exact(Le.gC 7801 21).trans<|Le.mk rfl (.cons rfl (by exact Sub.refl _) rfl (.n 3 rfl rfl .nil)) (.cons rfl rfl (.arr rfl (by rfl) .nil))
   ·rintro⟨k,hk⟩;dsimp only;rcases k with _|_|_|k
    ·dsimp only[jO];refine U.seq<|rg<|.P rfl (bp rfl rfl)<|.nil<|U.seq<|U.ew rfl (rfl)<|U.skip<|U.seq<|U.block<|U.seq<|rg<|.P rfl (eC underlying78 sizeOf31 rfl rfl zD rfl)<|.P rfl (bE isAgg31 rfl)<|.ag rfl rfl<|.nil<|rg<|.mv rfl rfl<|.mv rfl rfl<|.P rfl (ao6 underlying31 underlying31 sizeOf39 rfl rfl)<|.ag rfl rfl<|.nil<|U.nil (bR ?_);refine rg<|.P rfl (bx rfl rfl (ao zO))<|.mv rfl rfl<|.nil<|U.nil (cz ?_);exact⟨⟨1,by omega⟩,by dsimp only;omega,Le.mk rfl (.cons rfl (by exact Sub.refl _) rfl (.n 3 rfl rfl .nil)) (.cons rfl rfl (.arr rfl (by rfl) .nil))⟩
    ·dsimp only[jO];refine U.seq<|rg<|.P rfl (bp rfl rfl)<|.nil<|U.seq<|U.ew rfl (rfl)<|U.skip<|U.seq<|U.block<|U.seq<|rg<|.P rfl (eC underlying78 sizeOf31 rfl rfl zD rfl)<|.P rfl (bE isAgg31 rfl)<|.ag rfl rfl<|.nil<|rg<|.mv rfl rfl<|.mv rfl rfl<|.W rfl (ZB (bt:=312) 7802 underlying31 underlying31 sizeOf39 typeInfo39 zeroValue39 rfl rfl rfl rfl rfl rfl (by simp;intro h;simp[h]at*) rfl zQ)<|.ag rfl rfl<|.nil<|U.nil (bR ?_);refine rg<|.P rfl (bx rfl rfl (ao zO))<|.mv rfl rfl<|.nil<|U.nil (cz ?_);exact⟨⟨2,by omega⟩,by dsimp only;omega,(Le.mk (aj:=[(7800,_),(7802,_)]) rfl (show ct _ _ [(6,_),(25,_),(26,_),(27,_)]from(.n 4 rfl rfl .nil)) (.cons (i:=7800) rfl rfl (.cons (i:=7802) rfl rfl .nil))).trans<|(Le.iz 6 7802 7801 rfl rfl zS rfl).trans<|Le.mk rfl (.cons rfl (by exact Sub.Ml rfl zS) rfl (.n 3 rfl rfl .nil)) (.cons rfl rfl (.arr rfl (by rfl) .nil))⟩
    ·dsimp only[jO];refine U.seq<|rg<|.P rfl (bp rfl rfl)<|.nil<|U.seq<|U.c6 rfl (rfl)<|U.exit (dz (du ?_));refine U.seq<|rg<|.mv rfl rfl<|.ag rfl rfl<|.nil ?_;refine U.bc (Le.freeze 2 7801 rfl rfl zS) ?_;refine U.ret (?_);exact dt rfl (Sub.snap zS)
    ·omega
  ·omega
structure aec where
 k:Nat
 hk:k<=2
structure aed where
 k:Nat
 hk:k<=2
def aeb:Fc prog 17 [.snap 1 true [[aQ ([]:List Fact)],[aQ ([]:List Fact)]]] (aQ []):=by
 refine ay func17 ntmps17 results17 ?_;refine U.seq<|rg<|.ag rfl rfl<|.nil<|U.seq<|rg<|.ag rfl rfl<|.nil<|U.seq<|U.seq<|rg<|.mv rfl rfl<|.P rfl (cv underlying78 rfl)<|.mv rfl rfl<|.nil<|U.block<|U.loop (ι:=aec) (fun sx=>[(0,.snap 1 true [[aQ ([]:List Fact)],[aQ ([]:List Fact)]]),(3,.i 0),(9,.snap 1 true [[aQ ([]:List Fact)],[aQ ([]:List Fact)]]),(10,.i 2),(11,.i sx.k)]) (fun sx=>[]) (fun sx=>2-sx.k) ⟨0,by omega⟩ ?_ ?_
 ·exact Le.mk rfl (.n 5 rfl rfl .nil) .nil
 ·rintro⟨k,hk⟩;dsimp only;rcases k with _|_|_|k
  ·refine U.seq<|rg<|.P rfl (bp rfl rfl)<|.nil<|U.seq<|U.ew rfl (rfl)<|U.skip<|U.seq<|U.block<|U.seq<|rg<|.P rfl (eC underlying78 sizeOf31 rfl rfl zD rfl)<|.P rfl (bE isAgg31 rfl)<|.ag rfl rfl<|.nil<|U.seq<|rg<|.mv rfl rfl<|.mv rfl rfl<|.P rfl (cv underlying31 rfl)<|.P rfl (bx rfl rfl (cT zO zS))<|.ag rfl rfl<|.nil<|U.seq<|rg<|.mv rfl rfl<|.P rfl (bp rfl rfl)<|.nil<|U.c6 rfl zS<|U.skip<|U.nil (bR ?_);refine rg<|.P rfl (bx rfl rfl (ao zO))<|.mv rfl rfl<|.nil<|U.nil (cz ?_);exact⟨⟨1,by omega⟩,by dsimp only;omega,Le.mk rfl (.n 5 rfl rfl .nil) .nil⟩
  ·refine U.seq<|rg<|.P rfl (bp rfl rfl)<|.nil<|U.seq<|U.ew rfl (rfl)<|U.skip<|U.seq<|U.block<|U.seq<|rg<|.P rfl (eC underlying78 sizeOf31 rfl rfl zD rfl)<|.P rfl (bE isAgg31 rfl)<|.ag rfl rfl<|.nil<|U.seq<|rg<|.mv rfl rfl<|.mv rfl rfl<|.P rfl (cv underlying31 rfl)<|.P rfl (bx rfl rfl (cT zO zS))<|.ag rfl rfl<|.nil<|U.seq<|rg<|.mv rfl rfl<|.P rfl (bp rfl rfl)<|.nil<|U.c6 rfl zS<|U.skip<|U.nil (bR ?_);refine rg<|.P rfl (bx rfl rfl (ao zO))<|.mv rfl rfl<|.nil<|U.nil (cz ?_);exact⟨⟨2,by omega⟩,by dsimp only;omega,Le.mk rfl (.n 5 rfl rfl .nil) .nil⟩
  ·refine U.seq<|rg<|.P rfl (bp rfl rfl)<|.nil<|U.seq<|U.c6 rfl (rfl)<|U.exit (dz (du ?_));refine U.seq<|rg<|.mv rfl rfl<|.P rfl (ah call49 rfl aiC)<|.ag rfl rfl<|.nil<|U.seq<|U.seq<|rg<|.mv rfl rfl<|.P rfl (cv underlying78 rfl)<|.mv rfl rfl<|.nil<|U.block<|U.loop (ι:=aed) (fun sx=>[(6,.gs 0 0),(25,.snap 1 true [[aQ ([]:List Fact)],[aQ ([]:List Fact)]]),(26,.i 2),(27,.i sx.k)]) (fun sx=>[(0,.arr 21 [])]) (fun sx=>2-sx.k) ⟨0,by omega⟩ ?_ ?_
   ·exact(Le.gC 0 21).trans<|Le.mk rfl (.cons rfl (Sub.oz _) rfl (.n 3 rfl rfl .nil)) (.arr rfl zS .nil)
   ·rintro⟨k,hk⟩;dsimp only;rcases k with _|_|_|k
    ·refine U.seq<|rg<|.P rfl (bp rfl rfl)<|.nil<|U.seq<|U.ew rfl (rfl)<|U.skip<|U.seq<|U.block<|U.seq<|rg<|.P rfl (eC underlying78 sizeOf31 rfl rfl zD rfl)<|.P rfl (bE isAgg31 rfl)<|.ag rfl rfl<|.nil<|rg<|.mv rfl rfl<|.mv rfl rfl<|.W rfl (ee 1 underlying31 underlying31 sizeOf39 typeInfo39 zeroValue39 rfl (bt:=312) rfl rfl rfl rfl zS rfl rfl zS)<|.ag rfl rfl<|.nil<|U.nil (bR ?_);refine rg<|.P rfl (bx rfl rfl (ao zO))<|.mv rfl rfl<|.nil<|U.nil (cz ?_);exact⟨⟨1,by omega⟩,by dsimp only;omega,(Le.mk (aj:=[(1,_)]) rfl (show ct _ _ [(6,_),(25,_),(26,_),(27,_)]from(.n 4 rfl rfl .nil)) (.cons (i:=1) rfl rfl .nil)).trans<|(Le.iz 6 1 0 rfl rfl zS rfl).trans<|Le.mk rfl (.cons rfl (Sub.gs zS) rfl (.n 3 rfl rfl .nil)) (.arr rfl zS .nil)⟩
    ·refine U.seq<|rg<|.P rfl (bp rfl rfl)<|.nil<|U.seq<|U.ew rfl (rfl)<|U.skip<|U.seq<|U.block<|U.seq<|rg<|.P rfl (eC underlying78 sizeOf31 rfl rfl zD rfl)<|.P rfl (bE isAgg31 rfl)<|.ag rfl rfl<|.nil<|rg<|.mv rfl rfl<|.mv rfl rfl<|.W rfl (ee 1 underlying31 underlying31 sizeOf39 typeInfo39 zeroValue39 rfl (bt:=312) rfl rfl rfl rfl zS rfl rfl zS)<|.ag rfl rfl<|.nil<|U.nil (bR ?_);refine rg<|.P rfl (bx rfl rfl (ao zO))<|.mv rfl rfl<|.nil<|U.nil (cz ?_);exact⟨⟨2,by omega⟩,by dsimp only;omega,(Le.mk (aj:=[(1,_)]) rfl (show ct _ _ [(6,_),(25,_),(26,_),(27,_)]from(.n 4 rfl rfl .nil)) (.cons (i:=1) rfl rfl .nil)).trans<|(Le.iz 6 1 0 rfl rfl zS rfl).trans<|Le.mk rfl (.cons rfl (Sub.gs zS) rfl (.n 3 rfl rfl .nil)) (.arr rfl zS .nil)⟩
    ·refine U.seq<|rg<|.P rfl (bp rfl rfl)<|.nil<|U.seq<|U.c6 rfl (rfl)<|U.exit (dz (du ?_));refine U.seq<|rg<|.mv rfl rfl<|.ag rfl rfl<|.nil ?_;refine U.bc (Le.freeze 2 0 rfl rfl zS) ?_;refine U.ret (?_);exact dt rfl (Sub.snap zS)
    ·omega
  ·omega
def RO(a b:List Fact)(pU:a.length<=1000)(pW:b.length<=1000):Fc prog 17 [.snap 1 true [[aQ a],[aQ b]]] (aQ (a++b)):=by
 by_cases h:a.length=0
 ·have e:=cc.1 h;subst e;by_cases h':b.length=0
  ·have e:=cc.1 h';subst e;exact aeb
  ·exact aeh b pW h'
 ·exact aee a b pU pW h
structure aj_(l:List aa)(n:aa)where
 pre:List aa
 rest:List aa
 hx:l=pre++rest
 hp:pre.any (fun m=>decide (n=m))=false
def aj9(l:List aa)(n:aa):Fc prog 47 [bg l,.str n] (.i (fw (fun m=>decide (n=m)) l)):=by
 refine ay func47 ntmps47 results47 ?_;refine U.eh 0 rfl (fun hb=>?_);simp only[bB,aD]at hb;refine go []<|U.loop (ι:=aj_ l n) (fun sx=>[(0,bg l),(1,.str n),(6,bg l),(7,.i l.length),(8,.i sx.pre.length)]) (fun sx=>[]) (fun sx=>sx.rest.length) ⟨[],l,rfl,rfl⟩ ?_ ?_
 ·exact Le.mk rfl (.n 3 rfl rfl (.cons rfl (Sub.int zS) rfl (.s rfl rfl .nil))) .nil
 ·rintro⟨pre,rest,hx,hp⟩;dsimp only;rcases lc hx with⟨rfl,hl⟩|⟨x,rest,rfl,hl⟩
  ·exact go []<|aH (by simp at hl|-;omega)<|go []<|af rfl (Sub.int (by exact uD hx hp))
  ·refine go []<|aM zQ<|ix zO (aK (fun s:aa=>[D.str s]) hx rfl)<|br (fun h1=>?_) (fun h1=>?_)
   ·exact af rfl (Sub.int (by exact uE hx hp h1))
   ·exact sd (ao zO)<|nx ⟨pre++[x],rest,by simp[hx],jX hp h1⟩ zS (Le.mk rfl (.n 4 rfl rfl (.cons rfl (Sub.int zS) rfl .nil)) .nil)
def UL(l:List aa)(n:aa):Fc prog 15 [bg l,.str n] (.b (l.any (fun m=>decide (n=m)))):=by
 refine ay func15 ntmps15 results15 ?_;exact go []<|oP (ah call47 rfl (aj9 _ _))<|af rfl (Sub.bool (by exact s0 _ l))
def arj{x y:aa}(h:decide (x≠y)=false):x=y:=by simpa using h
def ark{x y:aa}(h:decide (x≠y)=true):x≠y:=by simpa using h
structure agy(a b:List aa)where
 pre:List aa
 rest:List aa
 au:List aa
 az:List aa
 hx:a=pre++rest
 hy:b=au++az
 hp:pre=au
 mf:au.length=pre.length
 k6:az.length=rest.length
def Lt(a b:List aa):Fc prog 19 [bg a,bg b] (.b (j1 a b)):=by
 refine ay func19 ntmps19 results19 ?_;refine U.eh 0 rfl (fun hb=>?_);simp only[bB,aD]at hb;refine U.eh 1 rfl (fun fH=>?_);simp only[bB,aD]at fH;refine go []<|br (fun h1=>?_) (fun h1=>?_)
 ·exact af rfl (Sub.bool (by exact GA (by have h9:=h1;simp at h9;omega)))
 ·refine U.loop (ι:=agy a b) (fun sx=>[(0,bg a),(1,bg b),(12,.i a.length),(13,.i sx.pre.length)]) (fun sx=>[]) (fun sx=>sx.rest.length) ⟨[],a,[],b,rfl,rfl,rfl,rfl,by simp at h1;omega⟩ ?_ ?_
  ·exact Le.mk rfl (.n 2 rfl rfl (.cons rfl (Sub.int zS) rfl (.s rfl rfl .nil))) .nil
  ·rintro⟨pre,rest,au,az,hx,hy,hp,mf,k6⟩;dsimp only;rcases lc hx with⟨rfl,hl⟩|⟨x,rest,rfl,hl⟩
   ·obtain rfl:az=[]:=cc.1 (by simpa using k6);exact go []<|aH (by simp at hl|-;omega)<|go []<|af rfl (Sub.bool (by exact Gz hx hy hp))
   ·obtain⟨y,az,rfl⟩:=Gb (n:=rest.length) (by simpa using k6);refine go []<|aM zQ<|ix zO (aK (fun s:aa=>[D.str s]) hx rfl)<|ix zO (aK (fun s:aa=>[D.str s]) hy zO)<|ord<|br (fun h2=>?_) (fun h2=>?_)
    ·exact af rfl (Sub.bool (by exact GB hx hy mf (ark h2)))
    ·exact sd (ao zO)<|nx ⟨pre++[x],rest,au++[y],az,by simp[hx],by simp[hy],by rw[hp,arj h2],by simp[mf],by simpa using k6⟩ zS (Le.mk rfl (.n 3 rfl rfl (.cons rfl (Sub.int zS) rfl .nil)) .nil)
structure ajZ(l:List (List aa))(P:(List aa)->Bool)where
 pre:List (List aa)
 rest:List (List aa)
 hx:l=pre++rest
 hp:pre.any P=false
def Nz(l:List (List aa))(f:FuncId)(bO:List D)(cR:D.bw.dT bO=true)(P:(List aa)->Bool)(fA:∀(args:Array Value)(w:World),(callFunc f args).run prog w=.ok (.enter f args) w)(hP:∀x∈l,Fc prog f (bg x::bO) (.b (P x))):Fc prog 48 [.snap 1 false (l.map fun v=>[bg v]),.fn (.func f) [] bO] (.i (fw P l)):=by
 refine Fc.mk' [4] func48 rfl ntmps48 rfl (by simp[D.bw,D.bw.dT,cR]) rfl (fun t w=>results_tmp results48 t _ w) ?_;refine U.eh 0 rfl (fun hb=>?_);simp only[bB,aD]at hb;refine go []<|U.loop (ι:=ajZ l P) (fun sx=>[(0,.snap 1 false (l.map fun v=>[bg v])),(1,.fn (.func f) [] bO),(6,.snap 1 false (l.map fun v=>[bg v])),(7,.i l.length),(8,.i sx.pre.length)]) (fun sx=>[]) (fun sx=>sx.rest.length) ⟨[],l,rfl,rfl⟩ ?_ ?_
 ·exact Le.mk rfl (.s rfl rfl (.cons rfl (Sub.refl _) (rh cR) (.s rfl rfl (.cons rfl (Sub.int zS) rfl (.s rfl rfl .nil))))) .nil
 ·rintro⟨pre,rest,hx,hp⟩;dsimp only;rcases lc hx with⟨rfl,hl⟩|⟨x,rest,rfl,hl⟩
  ·exact go []<|aH (by simp at hl|-;omega)<|go []<|af rfl (Sub.int (by exact uD hx hp))
  ·refine go []<|aM zQ<|ix zO (aK (fun v=>[bg v]) hx rfl)<|oP (eO fA rfl rfl (hP x (by rw[hx];simp)))<|br (fun h1=>?_) (fun h1=>?_)
   ·exact af rfl (Sub.int (by exact uE hx hp h1))
   ·exact sd (ao zO)<|nx ⟨pre++[x],rest,by simp[hx],jX hp h1⟩ zS (Le.mk rfl (.s rfl rfl (.cons rfl (Sub.refl _) (rh cR) (.n 2 rfl rfl (.cons rfl (Sub.int zS) rfl .nil)))) .nil)
def aeq(l:List (List aa))(f:FuncId)(bO:List D)(cR:D.bw.dT bO=true)(P:(List aa)->Bool)(fA:∀(args:Array Value)(w:World),(callFunc f args).run prog w=.ok (.enter f args) w)(hP:∀x∈l,Fc prog f (bg x::bO) (.b (P x))):Fc prog 16 [.snap 1 false (l.map fun v=>[bg v]),.fn (.func f) [] bO] (.b (l.any P)):=by
 refine Fc.mk' [4] func16 rfl ntmps16 rfl (by simp[D.bw,D.bw.dT,cR]) rfl (fun t w=>results_tmp results16 t _ w) ?_;exact go []<|oP (ah call48 rfl (Nz l f bO cR P fA hP))<|af rfl (Sub.bool (by exact s0 P l))
end Go.T
namespace Go.T
open Go
abbrev dm(l:List (List aa)):D:=.snap 1 false (l.map fun v=>[D.snap 1 false (cm v)])
def Sub.aqe{w:World}{O:Nat->Prop}{b off:Nat}{d d':D}{rows:List (List D)}(s:Sub d d')(h:Vr w O b off 1 ([d]::rows)):Vr w O b off 1 ([d']::rows):=by
 refine J6 _ _ fun i r hr=>?_;cases i with
 |zero=>
  simp only[jH,cH]at hr;subst hr;obtain⟨u,h1,h2,h3⟩:=Cx _ _ h 0 d rfl;exact⟨d',u,rfl,h1,h2,s.out _ _ _ _ h3⟩
 |succ i=>
  simp only[Vr]at h;simp only[wK]at hr;have hl:∀(l:List (List D))(o:Nat),Vr w O b o 1 l->∀(i:Nat)(r:List D),l[i]?=some r->∃d,r=[d]:=by
   intro l;induction l with
   |nil=>intro o _ i r h;simp at h
   |cons a l ih=>
    intro o hv i r h;simp only[Vr]at hv;cases i with
    |zero=>simp only[jH,cH]at h;subst h;exact List.length_eq_one_iff.1 hv.1.1
    |succ i=>exact ih _ hv.2 i r (by simpa using h)
  obtain⟨e,rfl⟩:=hl _ _ h.2 i r hr;obtain⟨u,h1,h2,h3⟩:=Cx _ _ h.2 i e hr;exact⟨e,u,rfl,by rwa[show off+(i+1)=off+1+i by omega],h2,h3⟩
def Sub.Mb(gs:List (List aa)):Sub (wD gs) (dm ([]::gs)):=by
 refine⟨fun w O ρ v h=>?_⟩;simp only[V]at h|-;obtain⟨a,cap,rfl,h1,h2,h3⟩:=h;refine⟨a,cap,by simp,by simpa using h1,by simp,fun _=>?_⟩;obtain⟨b,off,e,h4,h5⟩:=h3 zS;exact⟨b,off,e,h4,Sub.aqe (Sub.nil _ _) h5⟩
open Go.Proofs Go.Proofs.Tryz
def ah6{x y:List aa}(h:(!j1 x y)=false):x=y:=by simpa[j1]using h
def ah7{x y:List aa}(h:(!j1 x y)=true):x≠y:=by simpa[j1]using h
structure agx(a b:List (List aa))where
 pre:List (List aa)
 rest:List (List aa)
 au:List (List aa)
 az:List (List aa)
 hx:a=pre++rest
 hy:b=au++az
 hp:pre=au
 mf:au.length=pre.length
 k6:az.length=rest.length
def SX(a b:List (List aa)):Fc prog 18 [.snap 1 false (a.map fun v=>[bg v]),.snap 1 false (b.map fun v=>[bg v]),.fn (.func 19) [] []] (.b (j1 a b)):=by
 refine ay func18 ntmps18 results18 ?_;refine U.eh 0 rfl (fun hb=>?_);simp only[bB,aD]at hb;refine U.eh 1 rfl (fun fH=>?_);simp only[bB,aD]at fH;refine go []<|br (fun h1=>?_) (fun h1=>?_)
 ·exact af rfl (Sub.bool (by exact GA (by have h9:=h1;simp at h9;omega)))
 ·refine U.loop (ι:=agx a b) (fun sx=>[(0,.snap 1 false (a.map fun v=>[bg v])),(1,.snap 1 false (b.map fun v=>[bg v])),(2,.fn (.func 19) [] []),(15,.snap 1 false (a.map fun v=>[bg v])),(16,.i a.length),(17,.i sx.pre.length)]) (fun sx=>[]) (fun sx=>sx.rest.length) ⟨[],a,[],b,rfl,rfl,rfl,rfl,by simp at h1;omega⟩ ?_ ?_
  ·exact Le.mk rfl (.n 4 rfl rfl (.cons rfl (Sub.int zS) rfl (.s rfl rfl .nil))) .nil
  ·rintro⟨pre,rest,au,az,hx,hy,hp,mf,k6⟩;dsimp only;rcases lc hx with⟨rfl,hl⟩|⟨x,rest,rfl,hl⟩
   ·obtain rfl:az=[]:=cc.1 (by simpa using k6);exact go []<|aH (by simp at hl|-;omega)<|go []<|af rfl (Sub.bool (by exact Gz hx hy hp))
   ·obtain⟨y,az,rfl⟩:=Gb (n:=rest.length) (by simpa using k6);refine go []<|aM zQ<|ix zO (aK (fun v:List aa=>[bg v]) hx rfl)<|ix zO (aK (fun v:List aa=>[bg v]) hy zO)<|oP (eO call19 rfl rfl (Lt x y))<|br (fun h2=>?_) (fun h2=>?_)
    ·exact af rfl (Sub.bool (by exact GB hx hy mf (ah7 h2)))
    ·exact sd (ao zO)<|nx ⟨pre++[x],rest,au++[y],az,by simp[hx],by simp[hy],by rw[hp,ah6 h2],by simp[mf],by simpa using k6⟩ zS (Le.mk rfl (.n 5 rfl rfl (.cons rfl (Sub.int zS) rfl .nil)) .nil)
def Qy:Fact:=⟨[],0,false,0,0,[],[],[],[],[],[],[],⟨[],[]⟩,⟨[],[]⟩,⟨[],[]⟩,[],[],0⟩
def jb(k c:aa):Fact:={Qy with key:=k,day:=20,kind:=3,dV:=c,dc:=[49]}
def Ku(k c:aa):Fc prog 40 [.str k,.str c] (.agg (aJ (jb k c))):=by
 refine Fc.jM func40 rfl ntmps40 rfl rfl rfl ?_;refine go [99999]<|U.ret (?_);exact Rd.cA results40 isAgg39 sizeOf39 rfl rfl rfl (Sub.agg (.r (.cons (Sub.refl _) (.r (.cons (Sub.refl _) (.r (.cons (Sub.refl _) (.r (.cons (Sub.refl _) (.r (.cons (Sub.refl _) (.r (.cons (Sub.refl _) (.r (.cons (Sub.refl _) (.r (.cons (Sub.refl _) (.r (.cons (Sub.refl _) (.cons ((Sub.nil _ false).trans (Sub.refl _)) (.cons ((Sub.nil _ false).trans (Sub.refl _)) (.r .nil))))))))))))))))))))))
end Go.T
namespace Go.T
open Go
variable[bX]
def Fc.res{P:Program}{f:FuncId}{ds:List D}{r r':D}(h:Fc P f ds r)(s:Sub r r'):Fc P f ds r':=
 ⟨fun w O ρ vals hO hg hv=>(h.out w O ρ vals hO hg hv).mono fun _ _ hx=>by
  obtain⟨v,e1,h1,h2⟩:=hx;exact⟨v,e1,s.out _ _ _ _ h1,h2⟩⟩
def dB.freeze{P:Program}{f:FuncId}{a r:D}{id sz n:Nat}{rows:List (List D)}(h:Fc P f [a,.snap sz false rows] r)(hn:rows.length=n):dB P f [a,.gs id n] [(id,.arr sz rows)] r [(id,.dead)]:=⟨fun w O ρ vals ai hg hv=>by
 have aP:=Tr.die id ai;have e:ae.set [(id,Ob.arr sz rows)] id .dead=[(id,.dead)]:=by simp[ae.set]
 have jK:∀v,V w (Ot O ρ [(id,Ob.arr sz rows)]) ρ (.gs id n) v->V w (Ot O ρ [(id,Ob.dead)]) ρ (.snap sz false rows) v:=fun v hv=>by
  have:=Df ai (show ae.get [(id,Ob.arr sz rows)] id=some (.arr sz rows) by simp[ae.get]) hn hv;rwa[e]at this
 rw[e]at aP;simp only[Vs]at hv;obtain⟨u,us,rfl,h1,u2,us2,rfl,h2,rfl⟩:=hv;have bA:∀b,Ot O ρ [(id,Ob.dead)] b->b<w.heap.size:=fun b hb=>by
  rcases hb with hb|⟨i,o,l,g1,g2,g3⟩
  ·exact ai.lt b hb
  ·have c:(i=id/\Ob.dead=o)\/False:=by
    simp only[ae.get]at g1;cases fH:id.beq i with
    |true=>rw[fH]at g1;exact .inl ⟨(pT fH).symm,qe g1⟩
    |false=>rw[fH]at g1;cases g1
   rcases c with⟨_,rfl⟩|c
   ·cases g2
   ·exact c.elim
 refine(h.out w (Ot O ρ [(id,.dead)]) ρ [u,u2] bA (hg.mono aP.kept) ?_).mono fun ex w' hx=>?_
 ·simp only[Vs];exact⟨u,_,rfl,aP.V h1,u2,[],rfl,jK u2 h2,rfl⟩
 ·obtain⟨v,e1,h3,h4⟩:=hx;exact⟨v,ρ,e1,aP.trans (Tr.pz h4 aP.ok),h3⟩⟩
def ab2{w:World}{O:Nat->Prop}{b:Nat}{ds fg:List D}(h:jx ds fg):∀off,Vc w O b off ds->Vc w O b off fg:=by
 induction h with
 |nil=>exact fun _ h=>h
 |cons s _ ih=>
  intro off hv;simp only[Vc]at hv|-;obtain⟨⟨u,h1,h2⟩,h3⟩:=hv;exact⟨⟨u,h1,s.out _ _ _ _ h2⟩,ih _ h3⟩
def jx.len{ds fg:List D}(h:jx ds fg):ds.length=fg.length:=by
 induction h with
 |nil=>rfl
 |cons _ _ ih=>simp[ih]
inductive xS:List (List D)->List (List D)->Prop
 |nil:xS [] []
 |cons {r r':List D} {rs sv:List (List D)} (h:jx r r') (k:xS rs sv):xS (r::rs) (r'::sv)
def xS.len{rs sv:List (List D)}(h:xS rs sv):rs.length=sv.length:=by
 induction h with
 |nil=>rfl
 |cons _ _ ih=>simp[ih]
def ab3{w:World}{O:Nat->Prop}{b sz:Nat}{rs sv:List (List D)}(h:xS rs sv):∀off,Vr w O b off sz rs->Vr w O b off sz sv:=by
 induction h with
 |nil=>exact fun _ h=>h
 |cons s _ ih=>
  intro off hv;simp only[Vr]at hv|-;exact⟨⟨s.len▸hv.1.1,ab2 s _ hv.1.2⟩,ih _ hv.2⟩
def Sub.rows{sz:Nat}{f:Bool}{rs sv:List (List D)}(h:xS rs sv):Sub (.snap sz f rs) (.snap sz false sv):=by
 have hl:=h.len;refine⟨fun w O ρ v hv=>?_⟩;simp only[V]at hv|-;obtain⟨a,cap,rfl,h1,_,h3⟩:=hv;rw[hl]at h1;refine⟨a,cap,by rw[hl],h1,by simp,fun aC=>?_⟩;obtain⟨b,off,e,h4,h5⟩:=h3 (by
  cases rs with
  |nil=>cases h;exact absurd rfl aC
  |cons=>simp)
 exact⟨b,off,e,h4,ab3 h _ h5⟩
end Go.T
namespace Go.T
open Go
theorem Jq:∀Ls:List (List aa),∃u,f_ u Ls
 |[]=>⟨[],aaf⟩
 |l::Ls=>by obtain⟨u,h⟩:=Jq Ls;exact⟨w9 u l,aae h l⟩
def aix{u:UM}{g:List aa}(h:g∈gU u):∃x∈aE u,∀y,y∈g↔(y∈aE u/\aI u y=aI u x):=by
 unfold gU at h;obtain⟨x,hx,rfl⟩:=dh.1 h;refine⟨x,(tJ.1 hx).1,fun y=>?_⟩;unfold jZ;rw[q7,eX];simp
def Me{u:UM}{x:aa}(hx:x∈aE u):∃g∈gU u,∀y,y∈g↔(y∈aE u/\aI u y=aI u x):=by
 have aC:((aE u).filter fun y=>decide (aI u y=aI u x))≠[]:=pw (wx hx);obtain⟨h1,h2⟩:=Jx aC;generalize (fk ((aE u).filter fun y=>decide (aI u y=aI u x))).headD []=z at h1 h2;obtain⟨h3,h4⟩:=eX.1 h1;have h4:aI u z=aI u x:=aG h4;refine⟨jZ u z,?_,fun y=>?_⟩
 ·unfold gU;refine dh.2 ⟨z,tJ.2 ⟨h3,?_⟩,rfl⟩;unfold mW;simp only[de,cd];exact fun y hy e=>h2 y (eX.2 ⟨hy,by rw[e,h4];exact iH rfl⟩)
 ·unfold jZ;rw[q7,eX,h4];simp
def aiB{Ls jD:List (List aa)}(h1:∀l∈Ls,∃l'∈jD,∀x∈l,x∈l')(h2:∀l∈jD,∃l'∈Ls,∀x∈l,x∈l'):gJ Ls=gJ jD:=by
 obtain⟨u,hu⟩:=Jq Ls;rw[<-Dd hu,<-Dd (hu.mono h1 h2)]
def GP{gs:List (List aa)}(fD:gs.flatten.Nodup){g g':List aa}(hg:g∈gs)(me:g'∈gs){x:aa}(hx:x∈g)(k9:x∈g'):g=g':=by
 induction gs with
 |nil=>cases hg
 |cons a r ih=>
  rw[fW,wG]at fD;rcases cr.1 hg with e|hg<;>rcases cr.1 me with e'|me
  ·rw[e,e']
  ·exact absurd rfl (fD.2.2 x (e▸hx) x (lA.2 ⟨g',me,k9⟩))
  ·exact absurd rfl (fD.2.2 x (e'▸k9) x (lA.2 ⟨g,hg,hx⟩))
  ·exact ih fD.2.1 hg me
def ahx{gs:List (List aa)}(fD:gs.flatten.Nodup){g:List aa}(hg:g∈gs):g.Nodup:=by
 induction gs with
 |nil=>cases hg
 |cons a r ih=>
  rw[fW,wG]at fD;rcases cr.1 hg with rfl|hg
  ·exact fD.1
  ·exact ih fD.2.1 hg
def Mc{Ls gs:List (List aa)}(aC:∀g∈gs,g≠[])(hs:∀g∈gs,g.Pairwise fun a b=>a<=b)(fD:gs.flatten.Nodup)(hh:(gs.map (·.headD [])).Pairwise fun a b=>a<=b)
  (eJ:∀r∈Ls,r≠[]->∃g∈gs,∀x∈r,x∈g)(Hn:∀g∈gs,∀x∈g,gk Ls (g.headD []) x/\named Ls x):gJ Ls=gs:=by
 obtain⟨u,hu⟩:=Jq Ls;rw[<-Dd hu];have aaz:∀{x y:aa},gk Ls x y->x=y\/∃g∈gs,x∈g/\y∈g:=by
  intro x y hc;induction hc with
  |refl x=>exact .inl rfl
  |one hl hx hy=>
   obtain⟨g,hg,h⟩:=eJ _ hl (pw hx);exact .inr ⟨g,hg,h _ hx,h _ hy⟩
  |symm _ ih=>exact ih.imp Eq.symm fun⟨g,a,b,c⟩=>⟨g,a,c,b⟩
  |trans _ _ ih po=>
   rcases ih with rfl|⟨g,a,b,c⟩
   ·exact po
   ·rcases po with rfl|⟨g',a',b',c'⟩
    ·exact .inr ⟨g,a,b,c⟩
    ·obtain rfl:=GP fD a a' c b';exact .inr ⟨g,a,b,c'⟩
 have nk:∀g∈gs,∀x∈g,x∈aE u:=fun g hg x hx=>(hu.keys x).2 (Hn g hg x hx).2
 -- the class of a name of g is g
 have F3:∀g∈gs,∀x∈g,jZ u x=g:=by
  intro g hg x hx;refine Fe ?_ (uc _) (hs g hg);refine(lz _).trans ((uA (hu.nd.filter _) (ahx fD hg)).2 fun y=>?_);rw[eX,cd];constructor
  ·rintro⟨h1,h2⟩;rcases aaz ((hu.conn y x h1 (nk g hg x hx)).1 h2)with rfl|⟨g',a,b,c⟩
   ·exact hx
   ·rw[GP fD hg a hx c];exact b
  ·intro hy;exact⟨nk g hg y hy,(hu.conn y x (nk g hg y hy) (nk g hg x hx)).2 ((Hn g hg y hy).1.symm.trans (Hn g hg x hx).1)⟩
 have hd:∀g∈gs,g.headD []∈g:=fun g hg=>by
  cases g with
  |nil=>exact absurd rfl (aC _ hg)
  |cons a r=>exact c7
 have n1:(gU u).Nodup:=by
  have:((gU u).map (·.headD [])).Nodup:=by
   rw[Mf];exact(lz _).nodup_iff.2 (hu.nd.filter _)
  exact(rB.1 this).imp fun aC e=>aC (by rw[e])
 have n2:gs.Nodup:=by
  clear hs hh eJ Hn aaz nk F3;induction gs with
  |nil=>exact Fx
  |cons a r ih=>
   have h2:=fD;rw[fW,wG]at h2;rw[kr];refine⟨fun ha=>?_,ih (fun g hg=>aC g (cC _ hg)) h2.2.1 (fun g hg=>hd g (cC _ hg))⟩;have hx:=hd a c7;exact h2.2.2 _ hx _ (lA.2 ⟨a,ha,hx⟩) rfl
 have hp:(gU u).Perm gs:=(uA n1 n2).2 fun g=>by
  constructor
  ·intro hg;unfold gU at hg;obtain⟨x,hx,rfl⟩:=dh.1 hg;have hx:=(tJ.1 hx).1;obtain⟨r,hr,VO⟩:=(hu.keys x).1 hx;obtain⟨g,hg,h⟩:=eJ r hr (pw VO);rw[F3 g hg x (h x VO)];exact hg
  ·intro hg;have h1:=hd g hg;obtain⟨g',me,hm⟩:=Me (nk g hg _ h1);have:g'=g:=by
    unfold gU at me;obtain⟨z,hz,rfl⟩:=dh.1 me;have qT:=(tJ.1 hz).1;have Nw:z∈jZ u z:=by unfold jZ;rw[q7];exact wx qT
    have e:=((hm z).1 Nw).2;have:z∈jZ u (g.headD []):=by unfold jZ;rw[q7];exact eX.2 ⟨qT,iH e⟩
    rw[F3 g hg _ h1]at this;exact F3 g hg z this
   exact this▸me
 refine E6 (le:=fun x y=>x.headD []<=y.headD []) (fun a b ha hb h1 h2=>?_) (rB.1 (Uq u)) (rB.1 hh) hp;have e:=tB h1 h2;have yt:=hp.mem_iff.1 ha;exact GP fD yt hb (hd a yt) (e▸hd b hb)
def u5(x:aa):aS:={(default:aS)with id:=x,kind:=1,cur:=[69,85,82],yU:=1}
def ql:Setup:={(default:Setup)with o7:=[⟨[69,85,82],0⟩],insts:=[u5 [97],u5 [98],u5 [99],u5 [100]]}
def pF:Fact:={Qy with key:=[115],day:=30,kind:=9,dV:=[97],other:=[98],ratio:=⟨[49],[]⟩}
def V8:b_ pF=[[97],[98]]:=by
 have h1:iO pF=[[97],[98]]:=by decide
 unfold b_;rw[h1];have h2:fk [[97],[98]]=[[97],[98]]:=Fe (lz _) (uc _) zD;rw[h2];decide
def V5(k:aa)(c:UInt8):b_ (jb k [c])=[[c]]:=by
 have h1:iO (jb k [c])=[[c]]:=by simp[iO,fJ,kB,xb,jb,Qy]
 unfold b_;rw[h1];have h2:fk [[c]]=[[c]]:=Fe (lz _) (uc _) zS;rw[h2];simp[Lib.compact,Lib.compactUpTo,Lib.keeps]
def Up{Ls gs:List (List aa)}(h:∀g∈gs,g∈Ls)(aC:∀g∈gs,g≠[]):∀g∈gs,∀x∈g,gk Ls (g.headD []) x/\named Ls x:=fun g hg x hx=>⟨.one (h g hg) (by
 cases g with
 |nil=>exact absurd rfl (aC _ hg)
 |cons a r=>exact c7) hx,⟨g,h g hg,hx⟩⟩
def afq:fa ql [pF,jb [107] [99]]=[[[97]],[[98]],[[99]],[[100]],[[97],[98]],[[99]],[[97],[98]],[[99]]]:=by
 have e1:pF.key=[115]:=rfl;have e2:(jb [107] [99]).key=[107]:=rfl;simp[fa,fe,V8,V5,ql,u5,e1,e2]
def aip:gJ (fa ql [pF,jb [107] [99]])=[[[97],[98]],[[99]],[[100]]]:=by
 rw[afq];exact Mc zD zD zD zD zD (Up zD zD)
def afr:fa ql [pF,jb [107] [99],jb [107] [100]]=[[[97]],[[98]],[[99]],[[100]],[[97],[98]],[[99]],[[100]],[[97],[98]],[[99],[100]],[[99],[100]]]:=by
 have e1:pF.key=[115]:=rfl;have e2:∀c,(jb [107] c).key=[107]:=fun _=>rfl;simp[fa,fe,V8,V5,ql,u5,e1,e2]
def air:gJ (fa ql [pF,jb [107] [99],jb [107] [100]])=[[[97],[98]],[[99],[100]]]:=by
 rw[afr];exact Mc zD zD zD zD zD (Up zD zD)
set_option maxRecDepth 100000 in
def YG:gy (jb [107] [99])=0:=by decide+kernel
set_option maxRecDepth 100000 in
def anO:gy (jb [107] [100])=0:=by decide+kernel
set_option maxRecDepth 100000 in
def YI:gy pF=0:=by decide+kernel
set_option maxRecDepth 100000 in
def YH:lH ql.insts ql.o7=0:=by decide+kernel
def at7:sH ql [pF,jb [107] [99]]=false:=by simp[sH,YH,YG,YI]
def aua:sH ql [pF,jb [107] [99],jb [107] [100]]=false:=by simp[sH,YH,YG,anO,YI]
open Go.Proofs
structure pA(s:Setup)(l:List Fact):Prop where
 insts:∀x∈s.insts,sB x
 facts:∀f∈l,lM f
 yS:s.insts.length<=1000
 ids:∀x∈s.insts,dX x.id
 TR:l.length<=500
 opts:∀f∈l,f.opts.length<=1000/\∀s∈fJ f,dX s
def s5{n:Int}{s:aa}(h:gt n s=false):(s.length:Int)<=n:=by simpa[gt]using h
def Ma{f:aO}(h:AM f=false):nn f:=by
 simp only[AM,cq]at h;have h1:=s5 h.1;have h2:=s5 h.2;unfold nn;omega
def Bq{f:aO}(h:qb f=false):nn f:=by
 simp only[qb,cq]at h;have h1:=s5 h.1;have h2:=s5 h.2;unfold nn;omega
def wq{α:Type}{l:List α}{p:α->Bool}(h:l.any p=false){x:α}(hx:x∈l):p x=false:=by
 have:=tM.1 h x hx;simpa using this
def akl{x:aS}(h:Da x=false):sB x/\dX x.id:=by
 simp only[Da,cq,pJ,y0]at h;obtain⟨⟨⟨h1,h2⟩,h3⟩,h4,h5,h6,_⟩:=h;refine⟨⟨Ma h4,Ma h5,Ma h6⟩,?_⟩;have:=s5 h1;unfold dX aD;omega
def Aw{f:Fact}(h:s4 f=false):lM f/\f.opts.length<=1000/\∀s∈fJ f,dX s:=by
 simp only[s4,cq]at h;obtain⟨g1,g2,g3,g4⟩:=h;simp only[L_,cq,dY,Nat.not_lt]at g1;obtain⟨⟨⟨⟨⟨⟨⟨⟨⟨⟨a1,a2⟩,a3⟩,a4⟩,a5⟩,a6⟩,a7⟩,a8⟩,a9⟩,z8⟩,FN⟩:=g1;have ho:f.opts.length<=10:=by
  simp only[AL,cq,dY]at g2;have:=g2.2;omega
 have A6:∀o∈f.opts,AN o=false:=fun o hx=>wq g4 hx;refine⟨⟨fun p hp=>?_,by omega,by omega,by omega,Bq a9,Bq z8,Bq FN,fun o hx=>?_⟩,by omega,fun s hs=>?_⟩
 ·have:=wq g3 hp;simp only[Dc,cq,dY]at this;have h2:=this.1;omega
 ·have:=A6 o hx;simp only[AN,cq]at this;exact⟨Bq this.1.1.2,Bq this.1.2,Bq this.2⟩
 ·unfold fJ kB at hs;have b1:=a2;have b2:=a3;rw[cM]at hs;unfold dX aD;rcases hs with hs|hs
  ·have:s=f.dV\/s=f.other:=by
    split at hs
    ·simpa using hs
    ·exact .inl (by simpa using hs)
   rcases this with rfl|rfl<;>omega
  ·obtain⟨o,hx,rfl⟩:=dh.1 hs;have:=A6 o hx;simp only[AN,cq]at this;have:=s5 this.1.1.1;omega
def ue{l:List Fact}(h:rK l=false):l.length<=8/\∀f∈l,s4 f=false:=by
 simp only[rK,L',cq,dY]at h;exact⟨by have:=h.1;omega,fun f hf=>wq h.2.2 hf⟩
def IK{s:Setup}{l:List Fact}(h:uI s=false)(h2:rK l=false):pA s l:=by
 obtain⟨v1,v2⟩:=ue h2;simp only[uI,cq]at h;have hi:Db s.insts=false:=h.2.1.1.1.1;simp only[Db,cq,dY]at hi;have hx:∀x∈s.insts,sB x/\dX x.id:=fun x hx=>akl (wq hi.1 hx);exact⟨fun x k=>(hx x k).1,fun f hf=>(Aw (v2 f hf)).1,by have:=hi.2.2;omega,fun x k=>(hx x k).2,by omega,fun f hf=>(Aw (v2 f hf)).2⟩
def ah5{s:Setup}{l:List Fact}(h:pA s l)(hb:sH s l=false):Fc Tryz.prog 10 [.agg (im s),aQ l] (.a_ [wD (gJ (fa s l)),.i 0]):=
 ait s l h.insts h.facts h.yS h.ids h.TR h.opts hb
noncomputable abbrev aW(s:Setup)(l:List Fact):List (List aa):=[]::gJ (fa s l)
def Uk{s:Setup}{l:List Fact}(h:pA s l)(hb:sH s l=false):Fc Tryz.prog 10 [.agg (im s),aQ l] (.a_ [dm (aW s l),.i 0]):=
 (ah5 h hb).res (Sub.JH (Sub.Mb _) (Sub.refl _))
open Go.Proofs.Tryz
@[reducible] def BG:List aa:=[[97],[98],[99],[100]]
def anQ:pA ql [pF,jb [107] [99]]:=IK zD zD
def anR:pA ql [pF,jb [107] [99],jb [107] [100]]:=IK zD zD
@[reducible] def PT:List D:=[.snap 2 true [[.str [69,85,82],.i 0]],.snap 15 false (BG.map fun x=>iS (u5 x)),.raw (.slice none 0 0),.raw (.slice none 0 0),.raw (.slice none 0 0),.raw (.slice none 0 0),.i 0]
@[reducible] def Ff:List D:=[.str [115],.i 0,.b false,.i 30,.i 9,.str [97],.str [98],.str [],.str [],.str [],.str [],.str [],.str [],.str [],.str [49],.str [],.str [],.str [],.raw (.slice none 0 0),.raw (.slice none 0 0),.i 0]
def aaj:Sub (.agg PT) (.agg (im ql)):=.agg (.cons (Sub.sF _ _ _) (.r (.cons (Sub.nil _ _) (.cons (Sub.nil _ _) (.cons (Sub.nil _ _) (.cons (Sub.nil _ _) (.r .nil)))))))
def aaw:jx Ff (aJ pF):=.cons (Sub.refl _) (.r (.cons (Sub.refl _) (.r (.cons (Sub.refl _) (.r (.cons (Sub.refl _) (.r (.cons (Sub.refl _) (.r (.cons (Sub.refl _) (.r (.cons (Sub.refl _) (.r (.cons (Sub.refl _) (.r (.cons (Sub.refl _) (.r (.cons (Sub.nil _ _) (.cons (Sub.nil _ _) (.r .nil))))))))))))))))))))
theorem jx.refl:∀ds:List D,jx ds ds
 |[]=>.nil
 |_::ds=>.cons (Sub.refl _) (jx.refl ds)
@[reducible] def G1:List (List aa):=[[],[[97],[98]],[[99]],[[100]]]
@[reducible] def G2:List (List aa):=[[],[[97],[98]],[[99],[100]]]
def aiq:Fc prog 10 [.agg PT,.snap 21 true [Ff,aJ (jb [107] [99])]] (.a_ [dm G1,.i 0]):=
 ((Uk anQ at7).sub (.cons aaj (.cons (Sub.rows (.cons aaw (.cons (jx.refl _) .nil))) .nil))).res (Sub.of_eq (by unfold aW;rw[aip]))
def ais:Fc prog 10 [.agg PT,.snap 21 true [Ff,aJ (jb [107] [99]),aJ (jb [107] [100])]] (.a_ [dm G2,.i 0]):=
 ((Uk anR aua).sub (.cons aaj (.cons (Sub.rows (.cons aaw (.cons (jx.refl _) (.cons (jx.refl _) .nil)))) .nil))).res (Sub.of_eq (by unfold aW;rw[air]))
def agu:Fc prog 18 [dm G1,.snap 1 true [[.raw (.slice none 0 0)],[.snap 1 true [[.str [97]],[.str [98]]]],[.snap 1 true [[.str [99]]]],[.snap 1 true [[.str [100]]]]],.fn (.func 19) [] []] (.b true):=
 ((SX G1 G1).sub (.r (.cons (Sub.rows (.cons (.cons (Sub.nil _ _) .nil) (.cons (.cons (Sub.sF _ _ _) .nil) (.cons (.cons (Sub.sF _ _ _) .nil) (.cons (.cons (Sub.sF _ _ _) .nil) .nil))))) (.r .nil)))).res (Sub.bool zD)
def agv:Fc prog 18 [dm G2,.snap 1 true [[.raw (.slice none 0 0)],[.snap 1 true [[.str [97]],[.str [98]]]],[.snap 1 true [[.str [99]],[.str [100]]]]],.fn (.func 19) [] []] (.b true):=
 ((SX G2 G2).sub (.r (.cons (Sub.rows (.cons (.cons (Sub.nil _ _) .nil) (.cons (.cons (Sub.sF _ _ _) .nil) (.cons (.cons (Sub.sF _ _ _) .nil) .nil)))) (.r .nil)))).res (Sub.bool zD)
structure acD where
 pre:List aa
 rest:List aa
 hx:BG=pre++rest
def Q8:Fc prog 9 [] (.b true):=by
 refine ay func9 ntmps9 results9 ?_;refine U.seq<|rg<|.ag rfl rfl<|.nil<|U.seq<|rg<|.P rfl (rn (pl:=#[(0,1),(1,1)]) underlying89 zeroValue89 (fun w=>by kernel_rfl) rfl rfl)<|.P rfl (bK (n:=1) (rows:=[[.str [69,85,82],.i 0]]) underlying22 sizeOf89 rfl rfl rfl zeroValue89 rfl rfl rfl rfl rfl rfl rfl)<|.P rfl (rn (pl:=#[(0,1),(1,1),(2,1),(3,2),(5,1),(6,1)]) underlying30 zeroValue30 (fun w=>by kernel_rfl) rfl rfl)<|.W rfl (jC 0 zeroValue30 rfl)<|.W rfl (kP sizeOf30 rfl rfl rfl rfl rfl rfl)<|.nil<|U.seq<|U.seq<|rg<|.P rfl (bK (n:=4) (rows:=[[.str [97]],[.str [98]],[.str [99]],[.str [100]]]) underlying48 sizeOf9 rfl rfl rfl zeroValue9 rfl rfl rfl rfl rfl rfl rfl)<|.P rfl (cv underlying48 rfl)<|.mv rfl rfl<|.nil<|U.block<|U.loop (ι:=acD) (fun sx=>[(1,.box 0 0),(12,.snap 1 true (BG.map fun s=>[.str s])),(13,.i BG.length),(14,.i sx.pre.length)]) (fun sx=>[(0,.cells [.snap 2 true [[.str [69,85,82],.i 0]],.gs 1 sx.pre.length,.raw (.slice none 0 0),.raw (.slice none 0 0),.raw (.slice none 0 0),.raw (.slice none 0 0),.i 0]),(1,.arr 15 (sx.pre.map fun x=>iS (u5 x)))]) (fun sx=>sx.rest.length) ⟨[],BG,rfl⟩ ?_ ?_
 ·exact(Le.gC 1 15).trans<|(Le.fp 0 1 rfl rfl (Sub.oz _)).trans<|Le.mk rfl (.n 4 rfl rfl .nil) (.cons rfl rfl (.arr rfl zS .nil))
 ·rintro⟨pre,rest,hx⟩;dsimp only;have hl:=aT List.length hx;simp only[bl]at hl;have Vh:pre.length+rest.length=4:=by have h9:=aT List.length hx;simp at h9;omega
  rcases rest with _|⟨x,rest⟩
  ·obtain rfl:pre=BG:=by simpa using hx.symm
   refine U.seq<|rg<|.P rfl (bp rfl rfl)<|.nil<|U.seq<|U.c6 rfl zS<|U.exit (dz (du ?_));refine U.seq<|rg<|.P rfl (rn (pl:=#[(0,1),(1,1)]) underlying35 zeroValue35 (fun w=>by kernel_rfl) rfl rfl)<|.P rfl (rn (pl:=#[(0,1),(1,1),(2,1),(3,1),(4,1),(5,1),(6,1),(7,1),(8,1),(9,1),(10,1),(11,1),(12,2),(14,2),(16,2),(18,1),(19,1),(20,1)]) underlying39 zeroValue39 (fun w=>by kernel_rfl) rfl rfl)<|.W rfl (jC 2 zeroValue39 rfl)<|.W rfl (kP sizeOf39 rfl rfl rfl rfl rfl rfl)<|.nil ?_;refine U.bc (Le.LZ 0 1 1 rfl rfl rfl zS) ?_;refine U.bc (Le.fx 1 0 rfl rfl rfl rfl) ?_;refine U.bc (Le.fx 4 2 rfl rfl rfl rfl) ?_;refine U.seq (U.pE [.p,.p,.p,.p,.p,.p,.p,.p,.p,.p] l7 zK ?_);refine .P rfl (vH isAgg30 sizeOf30 rfl rfl)<|.P rfl (vH isAgg39 sizeOf39 rfl rfl)<|.P rfl (ah call40 rfl (Ku _ _))<|.P rfl (bK (n:=2) (rows:=[Ff,aJ (jb [107] [99])]) underlying31 sizeOf39 rfl rfl rfl zeroValue39 rfl rfl rfl rfl rfl rfl rfl)<|.P rfl (ah call10 rfl aiq)<|.mv rfl rfl<|.P rfl (eP rfl rfl)<|.P rfl (eP rfl rfl)<|.ag rfl rfl<|.ag rfl rfl<|.nil<|U.seq (U.pE [.p,.p,.p,.p,.p,.p,.p,.p,.p,.p,.p] l7 zK ?_);refine .P rfl (vH isAgg30 sizeOf30 rfl rfl)<|.P rfl (vH isAgg39 sizeOf39 rfl rfl)<|.P rfl (ah call40 rfl (Ku _ _))<|.P rfl (ah call40 rfl (Ku _ _))<|.P rfl (bK (n:=3) (rows:=[Ff,aJ (jb [107] [99]),aJ (jb [107] [100])]) underlying31 sizeOf39 rfl rfl rfl zeroValue39 rfl rfl rfl rfl rfl rfl rfl)<|.P rfl (ah call10 rfl ais)<|.mv rfl rfl<|.P rfl (eP rfl rfl)<|.P rfl (eP rfl rfl)<|.ag rfl rfl<|.ag rfl rfl<|.nil<|U.seq (U.e_ [.p,.p,.p,.p,.p,.p,.p,.p,.p,.p,.p,.p,.p,.p,.p,.p,.p,.p,.p,.p,.p,.p] ?_)
   refine .mv rfl rfl<|.P rfl (kO rfl rfl)<|.mv rfl rfl<|.gT rfl (.inl rfl) rfl rfl rfl (fun hg=>pk (fun _=>aX rfl _))<|.gT rfl (.inl rfl) rfl rfl rfl (fun hg=>pk (fun _=>kO (bn rfl hg) rfl _))<|.P rfl (iy rfl rfl)<|.mv rfl rfl<|.gT rfl (.inl rfl) rfl rfl rfl (fun hg=>pk (fun _=>aX rfl _))<|.gT rfl (.inl rfl) rfl rfl rfl (fun hg=>pk (fun _=>bK (n:=2) (rows:=[[.str [97]],[.str [98]]]) underlying48 sizeOf9 rfl rfl rfl zeroValue9 rfl rfl rfl rfl rfl rfl rfl _))<|.gT rfl (.inl rfl) rfl rfl rfl (fun hg=>pk (fun _=>bK (n:=1) (rows:=[[.str [99]]]) underlying48 sizeOf9 rfl rfl rfl zeroValue9 rfl rfl rfl rfl rfl rfl rfl _))<|.gT rfl (.inl rfl) rfl rfl rfl (fun hg=>pk (fun _=>bK (n:=1) (rows:=[[.str [100]]]) underlying48 sizeOf9 rfl rfl rfl zeroValue9 rfl rfl rfl rfl rfl rfl rfl _))<|.gT rfl (.inl rfl) rfl rfl rfl (fun hg=>pk (fun _=>bK (n:=4) (rows:=[[.raw (.slice none 0 0)],[.snap 1 true [[.str [97]],[.str [98]]]],[.snap 1 true [[.str [99]]]],[.snap 1 true [[.str [100]]]]]) underlying43 sizeOf48 rfl rfl rfl zeroValue48 rfl rfl rfl rfl rfl rfl rfl _))<|.gT rfl (.inl rfl) rfl rfl rfl (fun hg=>pk (fun _=>ah call18 (cG (bn rfl hg) (cG (bn rfl hg) (cG rfl (rfl)))) agu _))<|.P rfl (iy rfl rfl)<|.mv rfl rfl<|.gT rfl (.inl rfl) rfl rfl rfl (fun hg=>pk (fun _=>aX rfl _))<|.gT rfl (.inl rfl) rfl rfl rfl (fun hg=>pk (fun _=>bK (n:=2) (rows:=[[.str [97]],[.str [98]]]) underlying48 sizeOf9 rfl rfl rfl zeroValue9 rfl rfl rfl rfl rfl rfl rfl _)) ?_
   refine .gT rfl (.inl rfl) rfl rfl rfl (fun hg=>pk (fun _=>bK (n:=2) (rows:=[[.str [99]],[.str [100]]]) underlying48 sizeOf9 rfl rfl rfl zeroValue9 rfl rfl rfl rfl rfl rfl rfl _))<|.gT rfl (.inl rfl) rfl rfl rfl (fun hg=>pk (fun _=>bK (n:=3) (rows:=[[.raw (.slice none 0 0)],[.snap 1 true [[.str [97]],[.str [98]]]],[.snap 1 true [[.str [99]],[.str [100]]]]]) underlying43 sizeOf48 rfl rfl rfl zeroValue48 rfl rfl rfl rfl rfl rfl rfl _))<|.gT rfl (.inl rfl) rfl rfl rfl (fun hg=>pk (fun _=>ah call18 (cG (bn rfl hg) (cG (bn rfl hg) (cG rfl (rfl)))) agv _))<|.P rfl (iy rfl rfl)<|.ag rfl rfl<|.nil<|U.ret (?_);exact dt rfl (Sub.refl _)
  ·simp only[bD]at hl;simp only[bD]at Vh;refine U.seq<|rg<|.P rfl (bp rfl rfl)<|.nil<|U.seq<|U.ew rfl zQ<|U.skip<|U.seq<|U.block<|U.seq<|rg<|.P rfl (eC underlying48 sizeOf9 rfl rfl zO (aK (fun s:aa=>[D.str s]) hx rfl))<|.P rfl (bE isAgg9 rfl)<|.ag rfl rfl<|.nil<|rg<|.P rfl (iN (n:=0) 23 1 underlying30 sizeOf23 rfl rfl)<|.R rfl (iY isAgg23 rfl rfl rfl)<|.mv rfl rfl<|.P rfl (rn (pl:=#[(0,1),(1,1),(2,1),(3,1),(4,1),(5,1),(6,2),(8,2),(10,1),(11,1),(12,1),(13,2)]) underlying65 zeroValue65 (fun w=>by kernel_rfl) rfl rfl)<|.P rfl (bK (n:=1) (rows:=[iS (u5 x)]) underlying23 sizeOf65 rfl rfl rfl zeroValue65 rfl rfl rfl rfl rfl rfl rfl)<|.W rfl (ee 2 underlying23 underlying23 sizeOf65 typeInfo65 zeroValue65 rfl (bt:=192) rfl rfl rfl rfl zS rfl rfl zQ)<|.P rfl (iN (n:=0) 23 1 underlying30 sizeOf23 rfl rfl)<|.W rfl (sq sizeOf23 rfl rfl rfl rfl zS)<|.nil<|U.nil (bR ?_);refine rg<|.P rfl (bx rfl rfl (ao zO))<|.mv rfl rfl<|.nil<|U.nil (cz ?_);exact⟨⟨pre++[x],rest,by simp[hx]⟩,by simp,(Le.mk (aj:=[(0,_),(2,_)]) rfl (show ct _ _ [(1,_),(12,_),(13,_),(14,_)]from(.n 4 rfl rfl .nil)) (.cons (i:=0) rfl rfl (.cons (i:=2) rfl rfl .nil))).trans<|(Le.Cf 0 1 2 1 rfl rfl rfl zS rfl).trans<|Le.mk rfl (.n 3 rfl rfl (.cons rfl (Sub.int zS) rfl .nil)) (.eq rfl zS rfl (.arr rfl zS .nil))⟩
end Go.T
namespace Go.T
open Go
variable[bX] {P:Program} {dst:Option Tmp} {ty:TypeId} {pos:String} {ar:Array Edge} {g:Option (Nat×Bool)} {env:Env}
def aq.res{o:Oper}{Z aj:ae}{d d':D}(h:aq P o env Z d aj)(s:Sub d d'):aq P o env Z d' aj:=fun O ρ a w ai hg hv=>by
 refine Oper.wp_mono ?_ (h O ρ a w ai hg hv);rintro a' w' ⟨av,v,h1,h2,h3⟩;exact⟨av,v,h1,h2,s.out _ _ _ _ h3⟩
def ao8{st xt e e':TypeId}{ti:TypeInfo}{z:Value}{sz bt:Nat}{x y:Operand}{fP:Bool}{rows new:List (List D)}(hu:P.underlying st=some (.slice e))(ia:P.underlying xt=some (.slice e'))(hs:∀w,(sizeOf e).run P w=.ok sz w)
  (jq:∀w,(typeInfo e).run P w=.ok ti w)(hz:∀w,(zeroValue e).run P w=.ok z w)(p7:z.cells.size=sz)(kA:ti.bytes=bt)(uL:Nat.beq bt 0=false)(hx:env.op x=some (.snap sz true rows))(hy:env.op y=some (.snap sz fP new))
  (nK:(rows.length+new.length)*bt<=140737488355328)(Z:ae):
  aq P ⟨dst,.call ⟨.builtin .append,#[x,y],#[st,xt]⟩,ty,pos,ar,g⟩ env Z (.snap sz false (rows++new)) Z:=by
 by_cases h:new=[]
 ·subst h;rw[iJ];exact(Zz hu ia hs hx hy Z).res (Sub.sF _ _ _)
 ·exact ZC hu ia hs jq hz p7 kA uL hx hy h nK Z
def ZD{t e:TypeId}{sz:Nat}{z:Value}{x:Operand}{ds:List D}(hu:P.underlying t=some (.slice e))(hs:∀w,(sizeOf e).run P w=.ok sz w)(cF:Nat.ble sz 16777216=true)
  (dQ:Nat.beq sz 0=false)(hz:∀w,(zeroValue e).run P w=.ok z w)(hx:env.op x=some (.agg ds))(hl:Nat.beq ds.length sz=true)(h1:m_ ds=true)(hp:D.bw.dT ds=true)(Z:ae):
  aq P ⟨dst,.buildSlice t 1 #[(0,x)],ty,pos,ar,g⟩ env Z (.snap sz true [ds]) Z:=by
 have yF:=pT hl;refine bK (n:=1) (xs:=[(0,x)]) (dH:=[(0,.agg ds)]) (cs:=ds) (rows:=[ds]) hu hs (by simpa using cF) rfl (by simpa using dQ) hz (by simp[Env.oO,hx]) ?_ zS rfl (by simpa using hl) h1 hp Z;have hlen:(((List.range (1*sz)).map fun x=>(z.cells.toList[x%z.cells.toList.length]?).getD default).map lY).length=sz:=by simp
 generalize (((List.range (1*sz)).map fun x=>(z.cells.toList[x%z.cells.toList.length]?).getD default).map lY)=zs at hlen;have e1:mu zs 0 ds=ds:=by
  have:=PX ds zs [] zO;simpa using this
 have e2:(Nat.beq (D.agg ds).il.length sz&&Nat.ble (0*sz+sz) zs.length&&(D.agg ds).ml)=true:=by
  rw[show(D.agg ds).il=ds from rfl,show(D.agg ds).ml=m_ ds from rfl,hl,h1,hlen];simp
 unfold nH;simp only[e2,iX];rw[xW,show(D.agg ds).il=ds from rfl,e1];rfl
def oQ{t e:TypeId}{z:Value}{x:Operand}{d:D}(hu:P.underlying t=some (.slice e))(hs:∀w,(sizeOf e).run P w=.ok 1 w)(hz:∀w,(zeroValue e).run P w=.ok z w)(hx:env.op x=some d)(hc:d.il=[d])(h1:d.one=true)(hk:d.ml=true)(hp:d.bw=true)(Z:ae):
  aq P ⟨dst,.buildSlice t 1 #[(0,x)],ty,pos,ar,g⟩ env Z (.snap 1 true [[d]]) Z:=by
 refine bK (n:=1) (xs:=[(0,x)]) (dH:=[(0,d)]) (cs:=[d]) (rows:=[[d]]) hu hs rfl rfl rfl hz (by simp[Env.oO,hx]) ?_ rfl rfl rfl (by simp[m_,h1]) (by simp[D.bw.dT,hp]) Z;have hlen:(((List.range (1*1)).map fun x=>(z.cells.toList[x%z.cells.toList.length]?).getD default).map lY).length=1:=by simp
 generalize (((List.range (1*1)).map fun x=>(z.cells.toList[x%z.cells.toList.length]?).getD default).map lY)=zs at hlen;obtain⟨a,rfl⟩:=List.length_eq_one_iff.1 hlen;unfold nH;simp[hc,hk,mu,nH];rfl
end Go.T
namespace Go.T
open Go Go.Proofs Go.Proofs.Tryz
end Go.T
namespace Go.T
open Go
def af9{s:aa}(h:s.head?≠some 48):ff s=s:=by
 cases s with
 |nil=>rfl
 |cons c r=>
  have:c≠48:=by simpa using h
  exact wB (by intro⟨_,e⟩;exact this (sf.1 (by simpa using e)))
def CS(s:aa):(digits s).1=gK (natVal (digits s).1):=Iw (o8 s) (af9 (Gi s))
def Xf(c d:UInt8)(r s:aa):aa.lt (c::r) (d::s)=(decide (c.toNat<d.toNat)||(decide (c=d)&&aa.lt r s)):=by
 show(decide (c<d)||(c==d&&Op.bytesLess r s))=_;have h1:decide (c<d)=decide (c.toNat<d.toNat):=by simp[sA]
 have h2:(c==d)=decide (c=d):=by rw[mE];simp
 rw[h1,h2];rfl
def OC(c:UInt8)(r:aa):natVal (c::r)=(c.toNat-48)*10^r.length+natVal r:=by
 have e:natVal (c::r)=natVal ([c]++r):=rfl;rw[e,xm];simp[natVal]
theorem N2:∀(a b:aa),a.length=b.length->a.all cg=true->b.all cg=true->(aa.lt a b=true↔natVal a<natVal b)
 |[],[],_,_,_=>by simp[aa.lt,Op.bytesLess,natVal]
 |[],_::_,h,_,_=>by simp at h
 |_::_,[],h,_,_=>by simp at h
 |c::r,d::s,h,ha,hb=>by
  simp only[bD,Nat.add_right_cancel_iff]at h;simp only[kJ,bd]at ha hb;have ih:=N2 r s h ha.2 hb.2;have hr:=re r ha.2;have hs:=re s hb.2;rw[Xf,OC,OC,h]at*;have hc:48<=c.toNat:=by have:=ha.1;simp[cg]at this;omega
  have hd:48<=d.toNat:=by have:=hb.1;simp[cg]at this;omega
  simp only[fZ,bd,cd];rcases q0 c.toNat d.toNat with g|g|g
  ·have:=dd (10^s.length) (show c.toNat-48+1<=d.toNat-48 by omega);rw[dO,qA]at this;constructor
   ·intro _;omega
   ·intro _;exact .inl g
  ·have e:c=d:=sf.1 g;subst e;simp only[Nat.lt_irrefl,false_or,H4,ih];omega
  ·have:=dd (10^s.length) (show d.toNat-48+1<=c.toNat-48 by omega);rw[dO,qA]at this;constructor
   ·rintro(h|h)
    ·omega
    ·have:=h.1;subst this;omega
   ·intro _;omega
def OD{d:aa}(hd:d.all cg=true)(h0:d.head?≠some 48)(hn:d.length≠0):10^(d.length-1)<=natVal d:=by
 cases d with
 |nil=>simp at hn
 |cons c r=>
  rw[OC];simp only[kJ,bd]at hd;have hc:48<=c.toNat:=by have:=hd.1;simp[cg]at this;omega
  have:c.toNat≠48:=fun e=>by simp at h0;exact h0 (sf.1 e)
  have:=dd (10^r.length) (show 1<=c.toNat-48 by omega);simp only[bD,Iu];omega
def Yk{a b:aa}(ha:a.all cg=true)(hb:b.all cg=true)(h0:b.head?≠some 48)(h:a.length<b.length):natVal a<natVal b:=by
 have h1:=re a ha;have h2:=OD hb h0 zO;have h3:10^a.length<=10^(b.length-1):=eE zO zO;omega
def tU(a b:aa):gA a b=fX (val a-val b):=by
 have da:=o8 a;have db:=o8 b;have ha:=Gi a;have hb:=Gi b;have na:(digits a).2=true->0<natVal (digits a).1:=fun h=>by
  have:=CT a h;have e:(digits a).1.length≠0:=by intro e;apply this;rw[cc.1 e,uJ];rfl
  exact lF (ph zO) (OD da ha e)
 have nb:(digits b).2=true->0<natVal (digits b).1:=fun h=>by
  have:=CT b h;have e:(digits b).1.length≠0:=by intro e;apply this;rw[cc.1 e,uJ];rfl
  exact lF (ph zO) (OD db hb e)
 have key:(natVal (digits a).1<natVal (digits b).1↔(digits a).1.length<(digits b).1.length\/((digits a).1.length=(digits b).1.length/\aa.lt (digits a).1 (digits b).1=true))/\
   (natVal (digits b).1<natVal (digits a).1↔(digits b).1.length<(digits a).1.length\/((digits a).1.length=(digits b).1.length/\aa.lt (digits b).1 (digits a).1=true)):=by
  rcases q0 (digits a).1.length (digits b).1.length with g|g|g
  ·have:=Yk da db hb g;constructor<;>constructor<;>intro h<;>omega
  ·rw[N2 _ _ g da db,N2 _ _ g.symm db da];constructor<;>constructor<;>intro h<;>omega
  ·have:=Yk db da ha g;constructor<;>constructor<;>intro h<;>omega
 unfold gA fX val;cases hna:(digits a).2<;>cases cF:(digits b).2<;>simp only[hna,cF]at na nb|-<;>simp only[ne_eq,not_true,pb,gM,mX,not_false_iff,reduceCtorEq]<;>(repeat' split)<;>grind
def Rm(s:aa):canon s=ofInt (val s):=by
 have h1:=CS s;have h2:=CT s;unfold canon val ofInt;cases h:(digits s).2 with
 |true=>
  have:natVal (digits s).1≠0:=fun e=>by
   rw[e,kK]at h1;exact h2 h (by rw[h1,uJ];rfl)
  simp only[mX];rw[aV zO,H_,oH,<-h1]
 |false=>
  simp only[gM,pb];rw[aF zO,oH,<-h1]
def ank(s:aa):oI s=ofInt (-val s):=by
 have h1:=CS s;have h2:=CT s;unfold oI val ofInt;cases h:(digits s).2 with
 |true=>
  simp only[mX,true_or];rw[aF zO,Int.neg_neg,oH,<-h1]
 |false=>
  simp only[gM,pb,false_or];by_cases e:(digits s).1=[]
  ·rw[aV e,e];simp[natVal,kK]
  ·have:natVal (digits s).1≠0:=fun e'=>by rw[e',kK]at h1;exact e h1
   rw[aF e,aV zO,H_,oH,<-h1]
def Yp(s:aa):val (oI s)=-val s:=by rw[ank,gO]
def fN(f:aO):aa×aa:=
 if decide (gA f.den []=0)=true then(f.num,[49])else if decide (gA f.den []<0)=true then(oI f.num,oI f.den)else(f.num,f.den)
def EY{f:aO}(h:decide (gA f.den []=0)=true):fN f=(f.num,[49]):=by rw[fN,aV h]
def ZQ{f:aO}(h:decide (gA f.den []=0)=false)(h2:decide (gA f.den []<0)=true):fN f=(oI f.num,oI f.den):=by rw[fN,aF (by rw[h];simp),aV h2]
def ZR{f:aO}(h:decide (gA f.den []=0)=false)(h2:decide (gA f.den []<0)=false):fN f=(f.num,f.den):=by rw[fN,aF (by rw[h];simp),aF (by rw[h2];simp)]
def F4(s:aa):gA s []=fX (val s):=by rw[tU,vZ,J9]
def Cb(f:aO):(val (bQ f).2<0->val (fN f).1=-val (bQ f).1/\val (fN f).2=-val (bQ f).2)/\(¬val (bQ f).2<0->val (fN f).1=val (bQ f).1/\val (fN f).2=val (bQ f).2):=by
 have e:decide (gA f.den []=0)=decide (fX (val f.den-val [])=0):=by rw[tU]
 unfold fN bQ;rw[e];by_cases h:decide (fX (val f.den-val [])=0)=true
 ·rw[aV h,aV h];refine⟨fun h=>?_,fun _=>⟨rfl,rfl⟩⟩;have h:val [49]<0:=h;rw[val_one]at h;omega
 ·rw[aF h,aF h];by_cases h2:decide (gA f.den []<0)=true
  ·rw[aV h2];have h3:=aG h2;rw[F4,Ju]at h3;exact⟨fun _=>⟨Yp _,Yp _⟩,fun h=>absurd h3 h⟩
  ·rw[aF h2];have h3:¬val f.den<0:=fun k=>h2 (iH (by rw[F4,Ju];exact k));exact⟨fun h=>absurd h h3,fun _=>⟨rfl,rfl⟩⟩
def EZ(f:aO):0<val (fN f).2:=by
 have h:=Cb f;have h2:=BZ f;by_cases k:val (bQ f).2<0
 ·have:=(h.1 k).2;omega
 ·have:=(h.2 k).2;omega
def Yo(s:aa):(oI s).length<=s.length+1:=by
 have:=ma s;unfold oI;split<;>simp<;>omega
def PG(f:aO){k:Nat}(hk:1<=k)(h:f.num.length<=k/\f.den.length<=k):(fN f).1.length<=k+1/\(fN f).2.length<=k+1:=by
 have h1:=Yo f.num;have h2:=Yo f.den;unfold fN;split
 ·exact⟨by show f.num.length<=_;omega,by show 1<=_;omega⟩
 ·split
  ·exact⟨by show(oI f.num).length<=_;omega,by show(oI f.den).length<=_;omega⟩
  ·exact⟨by show f.num.length<=_;omega,by show f.den.length<=_;omega⟩
def ap0{n d:Int}(h:d<0):iZ n d=iZ (-n) (-d):=by
 unfold iZ;rw[aV h,aV h,aF zO,aF zO]
def N3{n d:Int}(h:d<0):cS n d=cS (-n) (-d):=by unfold cS;rw[ap0 h]
def ofInt_one:ofInt 1=[49]:=by
 unfold ofInt;rw[aF zO];show gK 1=[49];rw[tQ zO,show 1/10=0 from rfl,kK];rfl
def Xv{d:Int}(h:0<d):cS 0 d=⟨[],[]⟩:=by
 have e:iZ 0 d=(0,1):=by
  unfold iZ;rw[aF zO,aF zO];have:(Int.gcd 0 d:Int)=d:=by rw[Int.gcd_zero_left];omega
  show((0:Int)/(Int.gcd 0 d:Int),d/(Int.gcd 0 d:Int))=(0,1);rw[this,Int.zero_ediv,Int.ediv_self zO]
 unfold cS;rw[e];rw[ofInt_one,aV rfl,OP]
def Ia(f:aO):cS (val (fN f).1) (val (fN f).2)=cS (val (bQ f).1) (val (bQ f).2):=by
 have h:=Cb f;by_cases k:val (bQ f).2<0
 ·rw[(h.1 k).1,(h.1 k).2,<-N3 k]
 ·rw[(h.2 k).1,(h.2 k).2]
def aqX{g k:Int}(h:0<g):fX (g*k)=fX k:=by
 unfold fX;by_cases h1:k<0
 ·rw[aV (Int.mul_neg_of_pos_of_neg h h1),aV h1]
 ·by_cases h2:0<k
  ·have:=Int.mul_pos h h2;rw[aF zO,aV this,aF h1,aV h2]
  ·have:k=0:=by omega
   subst this;simp
def aaq{n d:Int}(h:0<d):fX (val (cS n d).num-val [])=fX n:=by
 have hg:0<(Int.gcd n d:Int):=by
  have:=Nat.gcd_pos_of_pos_right n.natAbs (n:=d.natAbs) zO;have e:Int.gcd n d=Nat.gcd n.natAbs d.natAbs:=rfl;omega
 obtain⟨k,hk⟩:(Int.gcd n d:Int)∣n:=Int.gcd_dvd_left n d;have e:(cS n d).num=ofInt k:=by
  have:(iZ n d).1=k:=by
   unfold iZ;simp only[aF (show ¬d<0 by omega)];conv=>lhs;lhs;rw[hk]
   rw[Int.mul_ediv_cancel_left _ zO]
  show ofInt (iZ n d).1=ofInt k;rw[this]
 rw[e,gO,vZ,J9];conv=>rhs;rw[hk]
 rw[aqX hg]
def kg(f g:aO):Int:=gA (ofInt (val (fN f).1*val (fN g).2)) (ofInt (val (fN g).1*val (fN f).2))
def PH(f g:aO):kg f g=sR f g:=by
 unfold kg sR zM;rw[tU,gO,gO];have hf:=Cb f;have hg:=Cb g;have pf:=EZ f;have pg:=EZ g;have pp:=Int.mul_pos pf pg;generalize val (bQ f).1=a at*;generalize val (bQ f).2=b at*;generalize val (bQ g).1=c at*;generalize val (bQ g).2=d at*;generalize val (fN f).1=a' at*;generalize val (fN f).2=b' at*;generalize val (fN g).1=c' at*;generalize val (fN g).2=d' at*;have key:cS (a*d-c*b) (b*d)=cS (a'*d'-c'*b') (b'*d'):=by
  by_cases k1:b<0
  ·obtain⟨e1,e2⟩:=hf.1 k1;by_cases k2:d<0
   ·obtain⟨e3,e4⟩:=hg.1 k2;rw[e1,e2,e3,e4];simp only[Int.neg_mul_neg]
   ·obtain⟨e3,e4⟩:=hg.2 k2;rw[e2,e4,C9]at pp;rw[e1,e2,e3,e4,N3 (show b*d<0 by omega)];simp only[C9,wo]
    congr 1;omega
  ·obtain⟨e1,e2⟩:=hf.2 k1;by_cases k2:d<0
   ·obtain⟨e3,e4⟩:=hg.1 k2;rw[e2,e4,wo]at pp;rw[e1,e2,e3,e4,N3 (show b*d<0 by omega)];simp only[C9,wo]
    congr 1;omega
   ·obtain⟨e3,e4⟩:=hg.2 k2;rw[e1,e2,e3,e4]
 rw[key,aaq pp]
def KV(a:aa):kq a=((lB a [45]).length:Int):=by
 unfold kq lB Hi;cases a with
 |nil=>simp
 |cons c r=>
  by_cases h:c=45
  ·subst h;have:(1:Int)<=(r.length:Int)+1:=by omega
   simp[this]
  ·have h2:¬((c.toNat:Int)=45):=fun k=>h (sf.1 (by show c.toNat=45;omega));simp[h,h2]
def acN(f:aO):(decide (40<max (kq f.num) (kq f.den)))=(decide (40<((lB f.num [45]).length:Int))||decide (40<((lB f.den [45]).length:Int))):=by
 rw[KV,KV,mE];simp only[cd,fZ];omega
def BP(pos:Bool)(f:aO):Int:=if decide (ke f≠0)=true then ke f else if(decide (kg f dJ<0)||(pos&&decide (kg f dJ=0)))=true then 2 else 0
def anE(pos:Bool)(f:aO):BP pos f=fL pos false f:=by
 unfold BP fL va ke H5;rw[PH,<-acN];by_cases h:decide (iI f≠0)=true
 ·rw[aV h,aV h];rfl
 ·rw[aF h,aF h];by_cases h2:decide (40<max (kq f.num) (kq f.den))=true
  ·rw[aV h2,aV h2];rfl
  ·rw[aF h2,aF h2];simp
def adF(a:aa):iI ⟨a,[]⟩=xZ a:=by
 unfold iI xZ;rw[aoN];have e:cS (val a) (val [49])=⟨ofInt (val a),[]⟩:=by
  rw[val_one];unfold cS iZ;simp only[aF (show ¬(1:Int)<0 by omega)];have:(Int.gcd (val a) 1:Int)=1:=by simp
  rw[this,Int.ediv_one,Int.ediv_one];rw[ofInt_one,aV rfl]
 show(if(⟨a,[]⟩:aO)=cS (val a) (val [49])then(0:Int)else 1)=_;rw[e,Rm];by_cases h:a=ofInt (val a)
 ·rw[aV (by rw[<-h]),aV h.symm]
 ·rw[aF (fun k=>h (aO.mk.inj k).1),aF (fun k=>h k.symm)]
def ad3(a:aa):sR ⟨a,[]⟩ dJ=fX (val a):=by
 rw[<-PH];unfold kg;have h1:fN ⟨a,[]⟩=(a,[49]):=EY (f:=⟨a,[]⟩) (show decide (gA [] []=0)=true by decide);have h2:fN dJ=([],[49]):=EY zD;rw[h1,h2,tU,gO,gO,val_one,vZ];simp
def zX(pos:Bool)(a:aa):Int:=if decide (xZ a≠0)=true then 1 else if decide (40<kq a)=true then 4 else if decide (gA a (if pos then[49]else[])<0)=true then 2 else 0
def atU(pos:Bool)(a:aa):zX pos a=fL pos false ⟨a,[]⟩:=by
 unfold zX fL va H5;rw[adF,ad3,KV];by_cases h:decide (xZ a≠0)=true
 ·rw[aV h,aV h]
 ·rw[aF h,aF h];have e:(decide (40<((lB a [45]).length:Int))||decide (40<((lB ([]:aa) [45]).length:Int)))=decide (40<((lB a [45]).length:Int)):=by
   have:decide (40<((lB ([]:aa) [45]).length:Int))=false:=by decide
   rw[this,tC]
  show _=if(decide (40<((lB a [45]).length:Int))||decide (40<((lB ([]:aa) [45]).length:Int)))=true then _ else _
  rw[e];by_cases h2:decide (40<((lB a [45]).length:Int))=true
  ·rw[aV h2,aV h2]
  ·rw[aF h2,aF h2];have e2:decide (gA a (if pos then[49]else[])<0)=(decide (fX (val a)<0)||(pos&&decide (fX (val a)=0))||(false&&decide (0<sR ⟨a,[]⟩ (cS (val [49]) (val [49]))))):=by
    rw[zT,tC,tU,mE];cases pos with
    |false=>
     simp only[gM,pb,zT,tC,cd,vZ,J9]
    |true=>
     simp only[mX,oL,fZ,cd,val_one,Ju,Co];omega
   rw[e2]
def Bt(t:aa):Bool:=t.all cg&&decide (1<=t.length)&&decide (t.length<=4)&&decide ((t.headD 0).toNat≠48)
def r8(s:aa):Bool:=(gH s 47).2.2&&isName (gH s 47).1&&Bt (gH s 47).2.1
theorem Y':∀(t:aa)(acc:Nat),t.all cg=true->(acc+1)*10^t.length<=1000000000000->Lib.parseUint10 acc t=.ok (t.foldl (fun a c=>10*a+(c.toNat-48)) acc)
 |[],acc,_,_=>rfl
 |c::r,acc,h,ha=>by
  simp only[kJ,bd,cg,cd]at h;obtain⟨hc,hr⟩:=h;have hp:1<=10^r.length:=ph zO;have e0:(acc+1)*10^(c::r).length=(10*acc+10)*10^r.length:=by
   rw[bD,lN,fO (10^r.length) 10,<-iv];congr 1;omega
  rw[e0]at ha;have h1:10*acc+10<=(10*acc+10)*10^r.length:=Fz _ hp;have h2:(10*acc+(c.toNat-48)+1)*10^r.length<=(10*acc+10)*10^r.length:=dd _ zO;have e:Lib.parseUint10 acc (c::r)=Lib.parseUint10 (10*acc+(c.toNat-48)) r:=by
   rw[fO 10 acc];simp only[Lib.parseUint10];rw[aV hc,aF zO,aF zO]
  rw[e,Y' r _ (by simpa[cg]using hr) zO,oe]
def acA{t:aa}(h:t.all cg=true)(h1:1<=t.length)(h4:t.length<=4):Lib.atoiAll t=.ok (natVal t:Int):=by
 have hv:=re t h;have cB:10^t.length<=10^4:=eE zO h4;have hp:=Y' t 0 h zO;cases t with
 |nil=>simp at h1
 |cons c r=>
  have hc:=h;simp only[kJ,bd,cg,cd]at hc;unfold Lib.atoiAll;simp only;rw[aF zO];unfold Lib.parseMag;rw[aF zS,hp];simp only;have e:(c::r).foldl (fun a c=>10*a+(c.toNat-48)) 0=natVal (c::r):=rfl;rw[e,aF zO,aF zO,aF zO]
def al6(t:aa):Bt t=(match Lib.atoiAll t with|.ok n=>decide (1<=n)&&decide (n<=9999)&&decide (Lib.itoa n=t)|_=>false):=by
 rw[mE];constructor
 ·intro h;simp only[Bt,bd,cd]at h;obtain⟨⟨⟨h1,h2⟩,h3⟩,h4⟩:=h;rw[acA h1 h2 h3];have hv:=re t h1;have cB:10^t.length<=10^4:=eE zO h3;have hu:=Iw h1 (wB fun k=>h4 (by cases t with|nil=>simp at h2|cons c r=>exact k.2));have h0:natVal t≠0:=by
   intro e;rw[e,kK]at hu;rw[hu]at h2;simp at h2
  simp only[bd,cd];refine⟨⟨by omega,by omega⟩,?_⟩;rw[show Lib.itoa (natVal t:Int)=Lib.decDigits (natVal t) by unfold Lib.itoa;rw[aF zO];simp,Aq _ h0,<-hu]
 ·intro h;split at h
  ·rename_i n hn;simp only[bd,cd]at h;obtain⟨⟨h1,h2⟩,h3⟩:=h;have e:Lib.itoa n=gK n.toNat:=by
    unfold Lib.itoa;rw[aF zO,Aq _ zO]
   rw[e]at h3;have hd:=Es n.toNat;have hl:=BH 4 n.toNat zO;have dQ:gK n.toNat≠[]:=fun k=>by have:=Et.1 k;omega
   rw[h3]at hd hl dQ;simp only[Bt,bd,cd];cases t with
   |nil=>exact absurd rfl dQ
   |cons c r=>exact⟨⟨⟨hd,by simp⟩,hl⟩,OB n.toNat c r h3⟩
  ·cases h
def al7(s:aa):r8 s=r3 s:=by
 have e:=al6 (gH s 47).2.1;unfold r8 r3;cases h:(gH s 47).2.2 with
 |true=>rw[e,oL];rfl
 |false=>
  have:(gH s 47).2.1=[]:=by
   unfold gH at h|-;split at h
   ·cases h
   ·rename_i k;rw[aF k]
  rw[this];exact(Bool.and_false _).symm
end Go.T
