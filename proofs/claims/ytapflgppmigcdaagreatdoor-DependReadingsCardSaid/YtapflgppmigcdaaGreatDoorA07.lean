/- Contracts of functions that the statement reaches, and the logic in which they are proved (no condition). -/
import Derived.Test.YtapflgppmigcdaaGreatDoorA06
import Derived.Test.YtapflgppmigcdaaGreatDoorProg
import Derived.KernelRfl
set_option linter.all false
set_option maxRecDepth 20000
namespace Go.T
open Go Go.Proofs Go.Proofs.Tryz
def l7:prog.follows .mixedOrders=true:=by kernel_rfl
def H8(s:aa):Fc prog 38 [.str s] (.b (decide (13<s.length))):=by
 refine ay func38 ntmps38 results38 ?_;refine U.seq<|rg<|.ag rfl rfl<|.nil<|U.seq<|rg<|.mv rfl rfl<|.P rfl (gG underlying33 rfl)<|.P rfl (gE rfl rfl)<|.ag rfl rfl<|.nil<|U.ret (?_);exact dt rfl (Sub.bool (by grind))
structure am8(s:aa)where
 pre:List UInt8
 rest:List UInt8
 hx:s=pre++rest
 hp:pre.all tO=true
def za(s:aa):Fc prog 94 [.str s] (.b (isName s)):=by
 refine ay func94 ntmps94 results94 ?_;refine U.nB 0 rfl (fun hb=>?_);simp only[aD]at hb;refine U.seq<|rg<|.ag rfl rfl<|.nil<|U.seq<|U.seq<|rg<|.ag rfl rfl<|.nil<|U.block<|U.loop (ι:=am8 s) (fun sx=>[(0,.str s),(3,.i sx.pre.length)]) (fun sx=>[]) (fun sx=>sx.rest.length) ⟨[],s,rfl,rfl⟩ ?_ ?_
 ·exact Le.mk rfl (.n 2 rfl rfl .nil) .nil
 ·rintro⟨pre,rest,hx,hp⟩;dsimp only;rcases lc hx with⟨rfl,hl⟩|⟨x,rest,rfl,hl⟩
  ·refine U.seq<|U.seq<|rg<|.mv rfl rfl<|.mv rfl rfl<|.P rfl (gG underlying9 rfl)<|.P rfl (bp rfl rfl)<|.nil<|U.c6 rfl (by simp at hl|-;omega)<|U.exit (dz (du ?_));refine U.seq (U.e_ [.p,.p,.p,.p,.p,.p,.p,.p,.p] ?_);refine .mv rfl rfl<|.P rfl (gG underlying9 rfl)<|.P rfl (qi rfl rfl)<|.mv rfl rfl<|.gT rfl (.inl rfl) rfl rfl rfl (fun hg=>pk (fun _=>aX rfl _))<|.gT rfl (.inl rfl) rfl rfl rfl (fun hg=>pk (fun _=>gG underlying9 (bn rfl hg) _))<|.gT rfl (.inl rfl) rfl rfl rfl (fun hg=>pk (fun _=>EV (bn rfl hg) rfl _))<|.P rfl (iy rfl rfl)<|.ag rfl rfl<|.nil<|U.ret (?_);exact dt rfl (Sub.bool (by grind[isName,tO]))
  ·refine U.seq<|U.seq<|rg<|.mv rfl rfl<|.mv rfl rfl<|.P rfl (gG underlying9 rfl)<|.P rfl (bp rfl rfl)<|.nil<|U.ew rfl zQ<|U.skip<|U.seq<|U.block<|U.seq<|rg<|.mv rfl rfl<|.mv rfl rfl<|.P rfl (nZ underlying9 rfl rfl zO (lf hx rfl))<|.ag rfl rfl<|.nil<|U.seq (U.e_ [.p,.p,.p,.p,.p,.p,.p,.p,.p,.p,.p,.p,.p,.p,.p,.p,.p,.p] ?_);refine .mv rfl rfl<|.P rfl (bp rfl rfl)<|.mv rfl rfl<|.gF rfl (.inl rfl) rfl rfl rfl (fun hg=>pk (fun _=>aX rfl _))<|.gF rfl (.inl rfl) rfl rfl rfl (fun hg=>pk (fun _=>gE (bn rfl (nt hg)) rfl _))<|.P rfl (oT rfl rfl)<|.mv rfl rfl<|.gT rfl (.inl rfl) rfl rfl rfl (fun hg=>pk (fun _=>aX rfl _))<|.gT rfl (.inl rfl) rfl rfl rfl (fun hg=>pk (fun _=>bp (bn rfl hg) rfl _))<|.gT rfl (.inl rfl) rfl rfl rfl (fun hg=>pk (fun _=>aX (bn rfl hg) _))<|.nF rfl (.inl rfl) rfl rfl rfl (fun hc hg=>pk (fun _=>aX rfl _))<|.nF rfl (.inl rfl) rfl rfl rfl (fun hc hg=>pk (fun _=>gE (bn rfl (bF hc hg)) rfl _))<|.gT rfl (.inl rfl) rfl rfl rfl (fun hg=>pk (fun _=>oT (bn rfl hg) (OZ rfl hg) _))<|.P rfl (iy rfl rfl)<|.mv rfl rfl<|.gT rfl (.inl rfl) rfl rfl rfl (fun hg=>pk (fun _=>aX rfl _))<|.gT rfl (.inl rfl) rfl rfl rfl (fun hg=>pk (fun _=>zy (bn rfl hg) rfl _))<|.P rfl (iy rfl rfl)<|.nil<|U.cond rfl (fun h1=>?_) (fun h1=>?_)
   ·refine U.seq<|rg<|.ag rfl rfl<|.nil<|U.ret (jY (sE (jY (?_))));exact dt rfl (Sub.bool (by grind[isName,tO]))
   ·refine U.skip<|U.nil (bR ?_);refine rg<|.mv rfl rfl<|.P rfl (bx rfl rfl (ao zO))<|.ag rfl rfl<|.nil<|U.nil (cz ?_);exact⟨⟨pre++[x],rest,by simp[hx],by grind[tO]⟩,by simp,Le.mk rfl (.s rfl rfl (.cons rfl (Sub.int zS) rfl .nil)) .nil⟩
structure ad5(s:aa)where
 pre:List UInt8
 rest:List UInt8
 hx:s=pre++rest
 hp:pre.all (fun c=>65<=c.toNat&&c.toNat<=90)=true
def ad4(s:aa):Fc prog 189 [.str s] (.b (gf s)):=by
 refine ay func189 ntmps189 results189 ?_;refine U.nB 0 rfl (fun hb=>?_);simp only[aD]at hb;refine U.seq<|rg<|.ag rfl rfl<|.nil<|U.seq<|U.seq<|rg<|.ag rfl rfl<|.nil<|U.block<|U.loop (ι:=ad5 s) (fun sx=>[(0,.str s),(3,.i sx.pre.length)]) (fun sx=>[]) (fun sx=>sx.rest.length) ⟨[],s,rfl,rfl⟩ ?_ ?_
 ·exact Le.mk rfl (.n 2 rfl rfl .nil) .nil
 ·rintro⟨pre,rest,hx,hp⟩;dsimp only;rcases lc hx with⟨rfl,hl⟩|⟨x,rest,rfl,hl⟩
  ·refine U.seq<|U.seq<|rg<|.mv rfl rfl<|.mv rfl rfl<|.P rfl (gG underlying9 rfl)<|.P rfl (bp rfl rfl)<|.nil<|U.c6 rfl (by simp at hl|-;omega)<|U.exit (dz (du ?_));refine U.seq<|rg<|.mv rfl rfl<|.P rfl (gG underlying9 rfl)<|.P rfl (kO rfl rfl)<|.ag rfl rfl<|.nil<|U.ret (?_);exact dt rfl (Sub.bool (by grind[gf]))
  ·refine U.seq<|U.seq<|rg<|.mv rfl rfl<|.mv rfl rfl<|.P rfl (gG underlying9 rfl)<|.P rfl (bp rfl rfl)<|.nil<|U.ew rfl zQ<|U.skip<|U.seq<|U.block<|U.seq (U.e_ [.p,.p,.p,.p,.p,.p,.p,.p,.p,.p] ?_);refine .mv rfl rfl<|.mv rfl rfl<|.P rfl (nZ underlying9 rfl rfl zO (lf hx rfl))<|.P rfl (bp rfl rfl)<|.mv rfl rfl<|.gF rfl (.inl rfl) rfl rfl rfl (fun hg=>pk (fun _=>aX rfl _))<|.gF rfl (.inl rfl) rfl rfl rfl (fun hg=>pk (fun _=>aX rfl _))<|.gF rfl (.inl rfl) rfl rfl rfl (fun hg=>pk (fun _=>nZ underlying9 (bn rfl (nt hg)) (bn rfl (nt hg)) zO (lf hx rfl) _))<|.gF rfl (.inl rfl) rfl rfl rfl (fun hg=>pk (fun _=>gE (bn rfl (nt hg)) rfl _))<|.P rfl (oT rfl rfl)<|.nil<|U.cond rfl (fun h1=>?_) (fun h1=>?_)
   ·refine U.seq<|rg<|.ag rfl rfl<|.nil<|U.ret (jY (sE (jY (?_))));exact dt rfl (Sub.bool (by grind[gf]))
   ·refine U.skip<|U.nil (bR ?_);refine rg<|.mv rfl rfl<|.P rfl (bx rfl rfl (ao zO))<|.ag rfl rfl<|.nil<|U.nil (cz ?_);exact⟨⟨pre++[x],rest,by simp[hx],by grind⟩,by simp,Le.mk rfl (.s rfl rfl (.cons rfl (Sub.int zS) rfl .nil)) .nil⟩
end Go.T
namespace Go.T
open Go Go.Proofs
def tk2:{i:bC//bU (Tryz.prog) 2 i}:=⟨_,dA [.raw (.int .i64 0)] Tryz.underlying2 Tryz.isAgg2 Tryz.sizeOf2 Tryz.zeroValue2 rfl⟩
def tk3:{i:bC//bU (Tryz.prog) 3 i}:=⟨_,dA [.raw (.int .i64 0)] Tryz.underlying3 Tryz.isAgg3 Tryz.sizeOf3 Tryz.zeroValue3 rfl⟩
def tk4:{i:bC//bU (Tryz.prog) 4 i}:=⟨_,dA [.raw (.bool false)] Tryz.underlying4 Tryz.isAgg4 Tryz.sizeOf4 Tryz.zeroValue4 rfl⟩
def tk5:{i:bC//bU (Tryz.prog) 5 i}:=⟨_,dA [.raw (.int .u8 0)] Tryz.underlying5 Tryz.isAgg5 Tryz.sizeOf5 Tryz.zeroValue5 rfl⟩
def tk9:{i:bC//bU (Tryz.prog) 9 i}:=⟨_,dA [.str []] Tryz.underlying9 Tryz.isAgg9 Tryz.sizeOf9 Tryz.zeroValue9 rfl⟩
def asl:{i:bC//bU (Tryz.prog) 21 i}:=⟨_,dA [.raw (.int .i32 0)] Tryz.underlying21 Tryz.isAgg21 Tryz.sizeOf21 Tryz.zeroValue21 rfl⟩
def asm:{i:bC//bU (Tryz.prog) 22 i}:=⟨_,dA [.raw (.slice none 0 0)] Tryz.underlying22 Tryz.isAgg22 Tryz.sizeOf22 Tryz.zeroValue22 rfl⟩
def aso:{i:bC//bU (Tryz.prog) 23 i}:=⟨_,dA [.raw (.slice none 0 0)] Tryz.underlying23 Tryz.isAgg23 Tryz.sizeOf23 Tryz.zeroValue23 rfl⟩
def asp:{i:bC//bU (Tryz.prog) 24 i}:=⟨_,dA [.raw (.slice none 0 0)] Tryz.underlying24 Tryz.isAgg24 Tryz.sizeOf24 Tryz.zeroValue24 rfl⟩
def ass:{i:bC//bU (Tryz.prog) 25 i}:=⟨_,dA [.raw (.slice none 0 0)] Tryz.underlying25 Tryz.isAgg25 Tryz.sizeOf25 Tryz.zeroValue25 rfl⟩
def ast:{i:bC//bU (Tryz.prog) 26 i}:=⟨_,dA [.raw (.slice none 0 0)] Tryz.underlying26 Tryz.isAgg26 Tryz.sizeOf26 Tryz.zeroValue26 rfl⟩
def asA:{i:bC//bU (Tryz.prog) 28 i}:=⟨_,qo [(0,1),(1,1)] [.raw (.slice none 0 0),.raw (.slice none 0 0)] Tryz.underlying28 Tryz.isAgg28 Tryz.sizeOf28 Tryz.zeroValue28 rfl (fun w=>by kernel_rfl)⟩
def asB:{i:bC//bU (Tryz.prog) 30 i}:=⟨_,qo [(0,1),(1,1),(2,1),(3,2),(5,1),(6,1)] [.raw (.slice none 0 0),.raw (.slice none 0 0),.raw (.slice none 0 0),.raw (.slice none 0 0),.raw (.slice none 0 0),.raw (.slice none 0 0),.raw (.int .i64 0)] Tryz.underlying30 Tryz.isAgg30 Tryz.sizeOf30 Tryz.zeroValue30 rfl (fun w=>by kernel_rfl)⟩
def asC:{i:bC//bU (Tryz.prog) 31 i}:=⟨_,dA [.raw (.slice none 0 0)] Tryz.underlying31 Tryz.isAgg31 Tryz.sizeOf31 Tryz.zeroValue31 rfl⟩
def asD:{i:bC//bU (Tryz.prog) 32 i}:=⟨_,dA [.raw (.int .i64 0)] Tryz.underlying32 Tryz.isAgg32 Tryz.sizeOf32 Tryz.zeroValue32 rfl⟩
def asE:{i:bC//bU (Tryz.prog) 33 i}:=⟨_,dA [.str []] Tryz.underlying33 Tryz.isAgg33 Tryz.sizeOf33 Tryz.zeroValue33 rfl⟩
def asF:{i:bC//bU (Tryz.prog) 35 i}:=⟨_,qo [(0,1),(1,1)] [.str [],.str []] Tryz.underlying35 Tryz.isAgg35 Tryz.sizeOf35 Tryz.zeroValue35 rfl (fun w=>by kernel_rfl)⟩
def asG:{i:bC//bU (Tryz.prog) 36 i}:=⟨_,dA [.raw (.slice none 0 0)] Tryz.underlying36 Tryz.isAgg36 Tryz.sizeOf36 Tryz.zeroValue36 rfl⟩
def asH:{i:bC//bU (Tryz.prog) 37 i}:=⟨_,dA [.raw (.slice none 0 0)] Tryz.underlying37 Tryz.isAgg37 Tryz.sizeOf37 Tryz.zeroValue37 rfl⟩
def asI:{i:bC//bU (Tryz.prog) 39 i}:=⟨_,qo [(0,1),(1,1),(2,1),(3,1),(4,1),(5,1),(6,1),(7,1),(8,1),(9,1),(10,1),(11,1),(12,2),(14,2),(16,2),(18,1),(19,1),(20,1)] [.str [],.raw (.int .i64 0),.raw (.bool false),.raw (.int .i64 0),.raw (.int .i64 0),.str [],.str [],.str [],.str [],.str [],.str [],.str [],.str [],.str [],.str [],.str [],.str [],.str [],.raw (.slice none 0 0),.raw (.slice none 0 0),.raw (.int .i64 0)] Tryz.underlying39 Tryz.isAgg39 Tryz.sizeOf39 Tryz.zeroValue39 rfl (fun w=>by kernel_rfl)⟩
def asJ:{i:bC//bU (Tryz.prog) 41 i}:=⟨_,dA [.raw .nilFunc] Tryz.underlying41 Tryz.isAgg41 Tryz.sizeOf41 Tryz.zeroValue41 rfl⟩
def asK:{i:bC//bU (Tryz.prog) 43 i}:=⟨_,dA [.raw (.slice none 0 0)] Tryz.underlying43 Tryz.isAgg43 Tryz.sizeOf43 Tryz.zeroValue43 rfl⟩
def asL:{i:bC//bU (Tryz.prog) 44 i}:=⟨_,dA [.raw (.int .i64 0)] Tryz.underlying44 Tryz.isAgg44 Tryz.sizeOf44 Tryz.zeroValue44 rfl⟩
def asM:{i:bC//bU (Tryz.prog) 48 i}:=⟨_,dA [.raw (.slice none 0 0)] Tryz.underlying48 Tryz.isAgg48 Tryz.sizeOf48 Tryz.zeroValue48 rfl⟩
def asN:{i:bC//bU (Tryz.prog) 51 i}:=⟨_,dA [.raw .nilFunc] Tryz.underlying51 Tryz.isAgg51 Tryz.sizeOf51 Tryz.zeroValue51 rfl⟩
def asO:{i:bC//bU (Tryz.prog) 52 i}:=⟨_,dA [.raw .nilFunc] Tryz.underlying52 Tryz.isAgg52 Tryz.sizeOf52 Tryz.zeroValue52 rfl⟩
def asP:{i:bC//bU (Tryz.prog) 56 i}:=⟨_,dA [.raw .nilFunc] Tryz.underlying56 Tryz.isAgg56 Tryz.sizeOf56 Tryz.zeroValue56 rfl⟩
def asQ:{i:bC//bU (Tryz.prog) 65 i}:=⟨_,qo [(0,1),(1,1),(2,1),(3,1),(4,1),(5,1),(6,2),(8,2),(10,1),(11,1),(12,1),(13,2)] [.str [],.raw (.int .i64 0),.str [],.raw (.int .i64 0),.raw (.int .i64 0),.raw (.int .i64 0),.str [],.str [],.str [],.str [],.raw (.int .i64 0),.raw (.int .i64 0),.str [],.str [],.str []] Tryz.underlying65 Tryz.isAgg65 Tryz.sizeOf65 Tryz.zeroValue65 rfl (fun w=>by kernel_rfl)⟩
def asR:{i:bC//bU (Tryz.prog) 71 i}:=⟨_,dA [.raw .nilFunc] Tryz.underlying71 Tryz.isAgg71 Tryz.sizeOf71 Tryz.zeroValue71 rfl⟩
def asS:{i:bC//bU (Tryz.prog) 78 i}:=⟨_,dA [.raw (.slice none 0 0)] Tryz.underlying78 Tryz.isAgg78 Tryz.sizeOf78 Tryz.zeroValue78 rfl⟩
def asT:{i:bC//bU (Tryz.prog) 81 i}:=⟨_,dA [.raw .nilFunc] Tryz.underlying81 Tryz.isAgg81 Tryz.sizeOf81 Tryz.zeroValue81 rfl⟩
def asU:{i:bC//bU (Tryz.prog) 85 i}:=⟨_,qo [(0,1),(1,1)] [.str [],.str []] Tryz.underlying85 Tryz.isAgg85 Tryz.sizeOf85 Tryz.zeroValue85 rfl (fun w=>by kernel_rfl)⟩
def asV:{i:bC//bU (Tryz.prog) 87 i}:=⟨_,qo [(0,1),(1,2),(3,2),(5,2)] [.str [],.str [],.str [],.str [],.str [],.str [],.str []] Tryz.underlying87 Tryz.isAgg87 Tryz.sizeOf87 Tryz.zeroValue87 rfl (fun w=>by kernel_rfl)⟩
def asW:{i:bC//bU (Tryz.prog) 89 i}:=⟨_,qo [(0,1),(1,1)] [.str [],.raw (.int .i64 0)] Tryz.underlying89 Tryz.isAgg89 Tryz.sizeOf89 Tryz.zeroValue89 rfl (fun w=>by kernel_rfl)⟩
def arZ:{i:bC//bU (Tryz.prog) 106 i}:=⟨_,dA [.raw .nilFunc] Tryz.underlying106 Tryz.isAgg106 Tryz.sizeOf106 Tryz.zeroValue106 rfl⟩
def ar0:{i:bC//bU (Tryz.prog) 110 i}:=⟨_,qo [(0,1),(1,1)] [.str [],.raw (.int .i64 0)] Tryz.underlying110 Tryz.isAgg110 Tryz.sizeOf110 Tryz.zeroValue110 rfl (fun w=>by kernel_rfl)⟩
def ar1:{i:bC//bU (Tryz.prog) 116 i}:=⟨_,dA [.raw (.slice none 0 0)] Tryz.underlying116 Tryz.isAgg116 Tryz.sizeOf116 Tryz.zeroValue116 rfl⟩
def ar2:{i:bC//bU (Tryz.prog) 118 i}:=⟨_,dA [.raw (.bool false),.raw (.bool false),.raw (.bool false),.raw (.bool false),.raw (.bool false),.raw (.bool false),.raw (.bool false),.raw (.bool false),.raw (.bool false),.raw (.bool false),.raw (.bool false),.raw (.bool false),.raw (.bool false)] Tryz.underlying118 Tryz.isAgg118 Tryz.sizeOf118 Tryz.zeroValue118 rfl⟩
def ar3:{i:bC//bU (Tryz.prog) 119 i}:=⟨_,dA [.raw (.map none)] Tryz.underlying119 Tryz.isAgg119 Tryz.sizeOf119 Tryz.zeroValue119 rfl⟩
def ar4:{i:bC//bU (Tryz.prog) 121 i}:=⟨_,qo [(0,1),(1,1),(2,13),(15,1),(16,1)] [.str [],.raw (.int .i64 0),.raw (.bool false),.raw (.bool false),.raw (.bool false),.raw (.bool false),.raw (.bool false),.raw (.bool false),.raw (.bool false),.raw (.bool false),.raw (.bool false),.raw (.bool false),.raw (.bool false),.raw (.bool false),.raw (.bool false),.raw (.map none),.raw (.bool false)] Tryz.underlying121 Tryz.isAgg121 Tryz.sizeOf121 Tryz.zeroValue121 rfl (fun w=>by kernel_rfl)⟩
def ar5:{i:bC//bU (Tryz.prog) 128 i}:=⟨_,dA [.raw (.map none)] Tryz.underlying128 Tryz.isAgg128 Tryz.sizeOf128 Tryz.zeroValue128 rfl⟩
def ar6:{i:bC//bU (Tryz.prog) 137 i}:=⟨_,dA [.raw (.map none)] Tryz.underlying137 Tryz.isAgg137 Tryz.sizeOf137 Tryz.zeroValue137 rfl⟩
def ar7:{i:bC//bU (Tryz.prog) 150 i}:=⟨_,dA [.raw .nilFunc] Tryz.underlying150 Tryz.isAgg150 Tryz.sizeOf150 Tryz.zeroValue150 rfl⟩
def ar8:{i:bC//bU (Tryz.prog) 152 i}:=⟨_,dA [.raw (.slice none 0 0)] Tryz.underlying152 Tryz.isAgg152 Tryz.sizeOf152 Tryz.zeroValue152 rfl⟩
def ar9:{i:bC//bU (Tryz.prog) 153 i}:=⟨_,dA [.raw .nilFunc] Tryz.underlying153 Tryz.isAgg153 Tryz.sizeOf153 Tryz.zeroValue153 rfl⟩
def ar_:{i:bC//bU (Tryz.prog) 154 i}:=⟨_,dA [.raw .nilFunc] Tryz.underlying154 Tryz.isAgg154 Tryz.sizeOf154 Tryz.zeroValue154 rfl⟩
def ar':{i:bC//bU (Tryz.prog) 159 i}:=⟨_,dA [.raw .nilFunc] Tryz.underlying159 Tryz.isAgg159 Tryz.sizeOf159 Tryz.zeroValue159 rfl⟩
def asa:{i:bC//bU (Tryz.prog) 184 i}:=⟨_,dA [.raw (.int .u64 0)] Tryz.underlying184 Tryz.isAgg184 Tryz.sizeOf184 Tryz.zeroValue184 rfl⟩
def asb:{i:bC//bU (Tryz.prog) 188 i}:=⟨_,dA [.raw .nilFunc] Tryz.underlying188 Tryz.isAgg188 Tryz.sizeOf188 Tryz.zeroValue188 rfl⟩
def asd:{i:bC//bU (Tryz.prog) 192 i}:=⟨_,dA [.raw .nilFunc] Tryz.underlying192 Tryz.isAgg192 Tryz.sizeOf192 Tryz.zeroValue192 rfl⟩
def ase:{i:bC//bU (Tryz.prog) 193 i}:=⟨_,dA [.raw (.int .i64 0),.raw (.int .i64 0),.raw (.int .i64 0)] Tryz.underlying193 Tryz.isAgg193 Tryz.sizeOf193 Tryz.zeroValue193 rfl⟩
def asf:{i:bC//bU (Tryz.prog) 198 i}:=⟨_,qo [(0,1),(1,1)] [.raw (.bool false),.raw .nilFunc] Tryz.underlying198 Tryz.isAgg198 Tryz.sizeOf198 Tryz.zeroValue198 rfl (fun w=>by kernel_rfl)⟩
def asg:{i:bC//bU (Tryz.prog) 199 i}:=⟨_,dA [.raw (.bool false),.raw .nilFunc,.raw (.bool false),.raw .nilFunc,.raw (.bool false),.raw .nilFunc,.raw (.bool false),.raw .nilFunc,.raw (.bool false),.raw .nilFunc,.raw (.bool false),.raw .nilFunc] Tryz.underlying199 Tryz.isAgg199 Tryz.sizeOf199 Tryz.zeroValue199 rfl⟩
def ash:{i:bC//bU (Tryz.prog) 205 i}:=⟨_,dA [.raw .nilFunc] Tryz.underlying205 Tryz.isAgg205 Tryz.sizeOf205 Tryz.zeroValue205 rfl⟩
def asi:{i:bC//bU (Tryz.prog) 206 i}:=⟨_,dA [.raw .nilFunc] Tryz.underlying206 Tryz.isAgg206 Tryz.sizeOf206 Tryz.zeroValue206 rfl⟩
def asj:{i:bC//bU (Tryz.prog) 208 i}:=⟨_,dA [.str [],.str [],.str [],.str [],.str [],.str [],.str [],.str [],.str [],.str [],.str [],.str [],.str [],.str [],.str [],.str [],.str [],.str [],.str [],.str [],.str [],.str [],.str [],.str [],.str [],.str []] Tryz.underlying208 Tryz.isAgg208 Tryz.sizeOf208 Tryz.zeroValue208 rfl⟩
def asn:{i:bC//bU (Tryz.prog) 226 i}:=⟨_,dA [.raw .nilFunc] Tryz.underlying226 Tryz.isAgg226 Tryz.sizeOf226 Tryz.zeroValue226 rfl⟩
def asq:{i:bC//bU (Tryz.prog) 244 i}:=⟨_,dA [.raw (.slice none 0 0)] Tryz.underlying244 Tryz.isAgg244 Tryz.sizeOf244 Tryz.zeroValue244 rfl⟩
def asr:{i:bC//bU (Tryz.prog) 246 i}:=⟨_,qo [(0,1),(1,1)] [.raw (.bool false),.raw (.slice none 0 0)] Tryz.underlying246 Tryz.isAgg246 Tryz.sizeOf246 Tryz.zeroValue246 rfl (fun w=>by kernel_rfl)⟩
def asu:{i:bC//bU (Tryz.prog) 260 i}:=⟨_,qo [(0,1),(1,1)] [.raw (.bool false),.raw (.slice none 0 0)] Tryz.underlying260 Tryz.isAgg260 Tryz.sizeOf260 Tryz.zeroValue260 rfl (fun w=>by kernel_rfl)⟩
def asv:{i:bC//bU (Tryz.prog) 273 i}:=⟨_,dA [.raw (.int .i64 0),.raw (.int .i64 0),.raw (.int .i64 0),.raw (.int .i64 0),.raw (.int .i64 0),.raw (.int .i64 0),.raw (.int .i64 0),.raw (.int .i64 0),.raw (.int .i64 0),.raw (.int .i64 0),.raw (.int .i64 0),.raw (.int .i64 0)] Tryz.underlying273 Tryz.isAgg273 Tryz.sizeOf273 Tryz.zeroValue273 rfl⟩
def asw:{i:bC//bU (Tryz.prog) 274 i}:=⟨_,dA [.raw (.int .i64 0),.raw (.int .i64 0),.raw (.int .i64 0),.raw (.int .i64 0),.raw (.int .i64 0),.raw (.int .i64 0)] Tryz.underlying274 Tryz.isAgg274 Tryz.sizeOf274 Tryz.zeroValue274 rfl⟩
def asx:{i:bC//bU (Tryz.prog) 277 i}:=⟨_,dA [.raw .nilFunc] Tryz.underlying277 Tryz.isAgg277 Tryz.sizeOf277 Tryz.zeroValue277 rfl⟩
def asy:{i:bC//bU (Tryz.prog) 278 i}:=⟨_,dA [.raw .nilFunc] Tryz.underlying278 Tryz.isAgg278 Tryz.sizeOf278 Tryz.zeroValue278 rfl⟩
def asz:{i:bC//bU (Tryz.prog) 279 i}:=⟨_,dA [.raw .nilFunc,.raw .nilFunc,.raw .nilFunc,.raw .nilFunc] Tryz.underlying279 Tryz.isAgg279 Tryz.sizeOf279 Tryz.zeroValue279 rfl⟩
def Tz:xM Tryz.prog:=.node 87 asV (.node 35 asF (.node 24 asp (.node 9 tk9 (.node 4 tk4 (.node 3 tk3 (.node 2 tk2 .leaf .leaf) .leaf) (.node 5 tk5 .leaf .leaf)) (.node 22 asm (.node 21 asl .leaf .leaf) (.node 23 aso .leaf .leaf))) (.node 30 asB (.node 26 ast (.node 25 ass .leaf .leaf) (.node 28 asA .leaf .leaf)) (.node 32 asD (.node 31 asC .leaf .leaf) (.node 33 asE .leaf .leaf)))) (.node 51 asN (.node 41 asJ (.node 37 asH (.node 36 asG .leaf .leaf) (.node 39 asI .leaf .leaf)) (.node 44 asL (.node 43 asK .leaf .leaf) (.node 48 asM .leaf .leaf))) (.node 71 asR (.node 56 asP (.node 52 asO .leaf .leaf) (.node 65 asQ .leaf .leaf)) (.node 81 asT (.node 78 asS .leaf .leaf) (.node 85 asU .leaf .leaf))))) (.node 192 asd (.node 137 ar6 (.node 118 ar2 (.node 110 ar0 (.node 106 arZ (.node 89 asW .leaf .leaf) .leaf) (.node 116 ar1 .leaf .leaf)) (.node 121 ar4 (.node 119 ar3 .leaf .leaf) (.node 128 ar5 .leaf .leaf))) (.node 154 ar_ (.node 152 ar8 (.node 150 ar7 .leaf .leaf) (.node 153 ar9 .leaf .leaf)) (.node 184 asa (.node 159 ar' .leaf .leaf) (.node 188 asb .leaf .leaf)))) (.node 244 asq (.node 205 ash (.node 198 asf (.node 193 ase .leaf .leaf) (.node 199 asg .leaf .leaf)) (.node 208 asj (.node 206 asi .leaf .leaf) (.node 226 asn .leaf .leaf))) (.node 274 asw (.node 260 asu (.node 246 asr .leaf .leaf) (.node 273 asv .leaf .leaf)) (.node 278 asy (.node 277 asx .leaf .leaf) (.node 279 asz .leaf .leaf)))))
def atj[bX]:od Tryz.prog Tz.get:=⟨Tz.ok,l7⟩
def go[bX]{F:Fr}{cs:List Code}{Q:Exit->Env->ae->Prop}{env:Env}{Z:ae}(stop:List Nat)(h:iK Tz.get Tryz.prog F stop Q 3000 (.code cs [] env Z)):U Tryz.prog F cs Q env Z:=ah3 atj 3000 cs Q env Z h
open Go.Proofs.Tryz
structure aie(l:List aO)where
 pre:List aO
 rest:List aO
 hx:l=pre++rest
 hp:pre.any AM=false
def aid(l:List aO):Fc prog 116 [Jp l] (.b (l.any AM)):=by
 refine ay func116 ntmps116 results116 ?_;refine U.eh 0 rfl (fun hb=>?_);simp only[bB,aD]at hb;refine go []<|U.loop (ι:=aie l) (fun sx=>[(0,Jp l),(2,.b false),(3,.i sx.pre.length)]) (fun sx=>[]) (fun sx=>sx.rest.length) ⟨[],_,rfl,rfl⟩ ?_ ?_
 ·exact Le.mk rfl (.n 3 rfl rfl .nil) .nil
 ·rintro⟨pre,rest,hx,hp⟩;dsimp only;rcases lc hx with⟨rfl,hl⟩|⟨x,rest,rfl,hl⟩
  ·exact go []<|aH (by simp at hl|-;omega)<|go []<|af rfl (Sub.bool (by exact(oX hx hp).symm))
  ·refine go []<|aM zQ<|ix zO (aK cK hx rfl)<|j9 (fun hg=>And.intro zO (aK cK hx rfl))<|br (fun h1=>?_) (fun h1=>?_)
   ·exact af rfl (Sub.bool (by exact(oh hx h1).symm))
   ·exact sd (ao zO)<|nx ⟨pre++[x],rest,by simp[hx],jX hp h1⟩ zS (Le.mk rfl (.n 2 rfl rfl (.cons rfl (Sub.int zS) rfl .nil)) .nil)
structure al1(l:List aO)where
 pre:List aO
 rest:List aO
 hx:l=pre++rest
 hp:pre.any qb=false
def al0(l:List aO):Fc prog 84 [Jp l] (.b (l.any qb)):=by
 refine ay func84 ntmps84 results84 ?_;refine U.eh 0 rfl (fun hb=>?_);simp only[bB,aD]at hb;refine go []<|U.loop (ι:=al1 l) (fun sx=>[(0,Jp l),(2,.b false),(3,.i sx.pre.length)]) (fun sx=>[]) (fun sx=>sx.rest.length) ⟨[],_,rfl,rfl⟩ ?_ ?_
 ·exact Le.mk rfl (.n 3 rfl rfl .nil) .nil
 ·rintro⟨pre,rest,hx,hp⟩;dsimp only;rcases lc hx with⟨rfl,hl⟩|⟨x,rest,rfl,hl⟩
  ·exact go []<|aH (by simp at hl|-;omega)<|go []<|af rfl (Sub.bool (by exact(oX hx hp).symm))
  ·refine go []<|aM zQ<|ix zO (aK cK hx rfl)<|j9 (fun hg=>And.intro zO (aK cK hx rfl))<|br (fun h1=>?_) (fun h1=>?_)
   ·exact af rfl (Sub.bool (by exact(oh hx h1).symm))
   ·exact sd (ao zO)<|nx ⟨pre++[x],rest,by simp[hx],jX hp h1⟩ zS (Le.mk rfl (.n 2 rfl rfl (.cons rfl (Sub.int zS) rfl .nil)) .nil)
structure aih(l:List aS)where
 pre:List aS
 rest:List aS
 hx:l=pre++rest
 hp:pre.any Da=false
def aif(l:List aS):Fc prog 79 [n_ l] (.b (Db l)):=by
 refine ay func79 ntmps79 results79 ?_;refine U.eh 0 rfl (fun hb=>?_);simp only[bB,aD]at hb;refine go []<|U.loop (ι:=aih l) (fun sx=>[(0,n_ l),(2,.b false),(3,.i sx.pre.length)]) (fun sx=>[]) (fun sx=>sx.rest.length) ⟨[],_,rfl,rfl⟩ ?_ ?_
 ·exact Le.mk rfl (.n 3 rfl rfl .nil) .nil
 ·rintro⟨pre,rest,hx,hp⟩;dsimp only;rcases lc hx with⟨rfl,hl⟩|⟨x,rest,rfl,hl⟩
  ·exact go []<|aH (by simp at hl|-;omega)<|go []<|af rfl (Sub.bool (by exact m' (oX hx hp) zS))
  ·refine go []<|aM zQ<|ix zO (aK iS hx rfl)<|gP (fun hg=>bK (n:=3) (rows:=[cK x.gp,cK x.gn,cK x.fY]) underlying116 sizeOf35 rfl rfl rfl zeroValue35 rfl rfl rfl rfl rfl rfl rfl)<|gP (fun hg=>ah call116 rfl (aid [x.gp,x.gn,x.fY]).sub)<|br (fun h1=>?_) (fun h1=>?_)
   ·exact af rfl (Sub.bool (by exact vt (oh hx h1)))
   ·exact sd (ao zO)<|nx ⟨pre++[x],rest,by simp[hx],jX hp h1⟩ zS (Le.mk rfl (.n 2 rfl rfl (.cons rfl (Sub.int zS) rfl .nil)) .nil)
structure ain(l:List bL)where
 pre:List bL
 rest:List bL
 hx:l=pre++rest
 hp:pre.any (fun c=>gt 8 c.code)=false
 AP:pre.length<=24
def aim(l:List bL):Fc prog 80 [kh l] (.b (Ul l)):=by
 refine ay func80 ntmps80 results80 ?_;refine U.eh 0 rfl (fun hb=>?_);simp only[bB,aD]at hb;refine go []<|U.loop (ι:=ain l) (fun sx=>[(0,kh l),(2,.b false),(3,.i sx.pre.length)]) (fun sx=>[]) (fun sx=>sx.rest.length) ⟨[],_,rfl,rfl,by simp⟩ ?_ ?_
 ·exact Le.mk rfl (.n 3 rfl rfl .nil) .nil
 ·rintro⟨pre,rest,hx,hp,AP⟩;dsimp only;rcases lc hx with⟨rfl,hl⟩|⟨x,rest,rfl,hl⟩
  ·exact go []<|aH (by simp at hl|-;omega)<|go []<|af rfl (Sub.bool (by exact m' (Q0 hx hp AP (by left;rfl)) zS))
  ·refine go []<|br (fun h1=>?_) (fun h1=>?_)
   ·refine ix zO (aK nG hx rfl)<|br (fun h2=>?_) (fun h2=>?_)
    ·exact af rfl (Sub.bool (by exact vt (acn hx h2 (by simp only[bs]at h1;omega))))
    ·exact sd (ao zO)<|nx ⟨pre++[x],rest,by simp[hx],jX hp h2,by simp at h1|-;omega⟩ zS (Le.mk rfl (.n 2 rfl rfl (.cons rfl (Sub.int zS) rfl .nil)) .nil)
   ·exact go []<|af rfl (Sub.bool (by exact m' (Q0 hx hp AP (by right;simp at h1;omega)) zS))
def ah9(w h:List Int):Fc prog 81 [.agg [lZ w,lZ h]] (.b (L9 w h)):=by
 refine ay func81 ntmps81 results81 ?_;exact go []<|af rfl (Sub.bool (by simp[L9]))
structure ail(s:Setup)where
 pre:List xL
 rest:List xL
 hx:s.z_=pre++rest
 hp:pre.any (fun a=>gt 120 a.code)=false
def aik(s:Setup):Fc prog 35 [.agg (im s)] (.b (uI s)):=by
 refine ay func35 ntmps35 results35 ?_;refine U.um 0 2 rfl rfl (fun hb=>?_);simp only[bB,aD]at hb;refine go []<|U.loop (ι:=ail s) (fun sx=>[(1,.box 0 0),(2,.b false),(3,.i sx.pre.length)]) (fun sx=>[(0,.cells (im s))]) (fun sx=>sx.rest.length) ⟨[],_,rfl,rfl⟩ ?_ ?_
 ·exact Le.mk rfl (.n 3 rfl rfl .nil) (.cons rfl rfl .nil)
 ·rintro⟨pre,rest,hx,hp⟩;dsimp only;rcases lc hx with⟨rfl,hl⟩|⟨x,rest,rfl,hl⟩
  ·refine go []<|aH (by simp at hl|-;omega)<|go []<|br (fun h1=>?_) (fun h1=>?_)
   ·exact af rfl (Sub.bool (by exact vt (m' (oX hx hp) (h1.symm.trans zS)).symm))
   ·exact oP (ah call79 rfl (aif _))<|gP (fun hg=>ah call80 rfl (aim _))<|gP (fun hg=>ah call81 rfl (ah9 _ _))<|af rfl (Sub.bool (by exact m' (m' (oX hx hp) (h1.symm.trans zS)).symm zS))
  ·refine go []<|aM zQ<|ix zO (aK Gw hx rfl)<|br (fun h2=>?_) (fun h2=>?_)
   ·exact af rfl (Sub.bool (by exact vt (vt (oh hx h2)).symm))
   ·exact sd (ao zO)<|nx ⟨pre++[x],rest,by simp[hx],jX hp h2⟩ zS (Le.mk rfl (.n 2 rfl rfl (.cons rfl (Sub.int zS) rfl .nil)) (.cons rfl rfl .nil))
def Bs(f:aO):Fc prog 39 [.agg (cK f)] (.b (qb f)):=by
 refine ay func39 ntmps39 results39 ?_;exact go []<|oP (bK (n:=1) (rows:=[cK f]) underlying116 sizeOf35 rfl rfl rfl zeroValue35 rfl rfl rfl rfl rfl rfl rfl)<|oP (ah call84 rfl (al0 [f]).sub)<|af rfl (Sub.bool zS)
structure ah'(f:Fact)where
 pre:List dE
 rest:List dE
 hx:f.fF=pre++rest
 hp:pre.any Dc=false
structure aia(f:Fact)(DG:f.fF.any Dc=false)where
 ES:List cY
 Ci:List cY
 Bd:f.opts=ES++Ci
 A8:ES.any AN=false
def ah_(f:Fact):Fc prog 8 [.agg (aJ f)] (.b (s4 f)):=by
 refine ay func8 ntmps8 results8 ?_;refine U.um 0 18 rfl rfl (fun hb=>?_);simp only[bB,aD]at hb;refine U.um 0 19 rfl rfl (fun fH=>?_);simp only[bB,aD]at fH;refine go []<|gP (fun hg=>ah call38 rfl (H8 _))<|gP (fun hg=>ah call38 rfl (H8 _))<|gP (fun hg=>ah call38 rfl (H8 _))<|gP (fun hg=>ah call39 rfl (Bs _))<|gP (fun hg=>ah call39 rfl (Bs _))<|gP (fun hg=>ah call39 rfl (Bs _))<|br (fun h1=>?_) (fun h1=>?_)
 ·exact af rfl (Sub.bool (by exact vt h1))
 ·refine br (fun h2=>?_) (fun h2=>?_)
  ·exact af rfl (Sub.bool (by exact m' h1 (vt (by simpa[AL]using h2))))
  ·refine U.loop (ι:=ah' f) (fun sx=>[(1,.box 0 0),(2,.b false),(3,.i sx.pre.length)]) (fun sx=>[(0,.cells (aJ f))]) (fun sx=>sx.rest.length) ⟨[],_,rfl,rfl⟩ ?_ ?_
   ·exact Le.mk rfl (.n 3 rfl rfl .nil) (.cons rfl rfl .nil)
   ·rintro⟨pre,rest,hx,hp⟩;dsimp only;rcases lc hx with⟨rfl,hl⟩|⟨x,rest,rfl,hl⟩
    ·have DG:=oX hx hp;refine go []<|aH (by simp at hl|-;omega)<|go []<|U.loop (ι:=aia f DG) (fun sx=>[(1,.box 0 0),(2,.b false),(4,.i sx.ES.length)]) (fun sx=>[(0,.cells (aJ f))]) (fun sx=>sx.Ci.length) ⟨[],_,rfl,rfl⟩ ?_ ?_
     ·exact Le.mk rfl (.n 3 rfl rfl .nil) (.cons rfl rfl .nil)
     ·rintro⟨ES,Ci,Bd,A8⟩;dsimp only;have M4:=aT List.length Bd;simp only[bl]at M4;rcases Ci with _|⟨xq,Ci⟩
      ·exact go []<|aH (by simp at M4|-;omega)<|go []<|af rfl (Sub.bool (by exact m' h1 (m' (by simpa[AL]using h2) (m' DG (oX Bd A8).symm))))
      ·simp only[bD]at M4;refine go []<|aM zQ<|ix zO (aK mF Bd rfl)<|gP (fun hg=>ah call39 rfl (Bs _))<|gP (fun hg=>ah call39 rfl (Bs _))<|gP (fun hg=>ah call39 rfl (Bs _))<|br (fun h3=>?_) (fun h3=>?_)
       ·exact af rfl (Sub.bool (by exact m' h1 (m' (by simpa[AL]using h2) (m' DG (oh Bd h3).symm))))
       ·exact sd (ao zO)<|nx ⟨ES++[xq],Ci,by simp[Bd],jX A8 h3⟩ zS (Le.mk rfl (.n 2 rfl rfl (.cons rfl (Sub.int zS) rfl .nil)) (.cons rfl rfl .nil))
    ·refine go []<|aM zQ<|ix zO (aK j0 hx rfl)<|j9 (fun hg=>And.intro zO (aK j0 hx rfl))<|gP (fun hg=>ah call38 rfl (H8 _))<|br (fun h4=>?_) (fun h4=>?_)
     ·exact af rfl (Sub.bool (by exact m' h1 (m' (by simpa[AL]using h2) (vt (oh hx h4)))))
     ·exact sd (ao zO)<|nx ⟨pre++[x],rest,by simp[hx],jX hp h4⟩ zS (Le.mk rfl (.n 2 rfl rfl (.cons rfl (Sub.int zS) rfl .nil)) (.cons rfl rfl .nil))
end Go.T
namespace Go.T
open Go
def Hr{s:aa}{n:Int}(hn:n=0)(h:0<s.length):s[n.toNat]?=some (s.headD 0):=by
 subst hn;cases s<;>simp_all
theorem xD{s:aa}(h:0<s.length)(h':(s.headD 0).toNat=45):d_ s=(s.drop 1,true):=by
 cases s with
 |nil=>simp at h
 |cons c r=>
  have:c=45:=sf.1 (by simpa using h');subst this;rfl
theorem vU{s:aa}(h:¬(0<s.length/\(s.headD 0).toNat=45)):d_ s=(s,false):=by
 cases s with
 |nil=>rfl
 |cons c r=>
  have h':c≠45:=by
   rintro rfl;simp at h
  unfold d_;split
  ·rename_i kZ;simp at kZ;exact absurd kZ.1 h'
  ·rfl
def CV{s:aa}(h:0<s.length)(h':(s.headD 0).toNat=48):ff s=ff (s.drop 1):=by
 cases s with
 |nil=>simp at h
 |cons c r=>
  have:c=48:=sf.1 (by simpa using h');subst this;simp[ff]
def wB{s:aa}(h:¬(0<s.length/\(s.headD 0).toNat=48)):ff s=s:=by
 cases s with
 |nil=>rfl
 |cons c r=>
  have h':c≠48:=by
   rintro rfl;simp at h
  unfold ff;split
  ·rename_i kZ;simp at kZ;exact absurd kZ.1 h'
  ·rfl
def Gs(s:aa):(ff s).length<=s.length:=by
 induction s with
 |nil=>simp[ff]
 |cons c r ih=>
  unfold ff;split
  ·rename_i kZ;simp at kZ;rw[<-kZ.2];simp;omega
  ·exact dP _
def JC(s:aa):(d_ s).1.length<=s.length:=by
 unfold d_;split<;>simp
def ma(s:aa):(digits s).1.length<=s.length:=by
 unfold digits;split
 ·exact dM (Gs _) (JC s)
 ·simp
def aro(s:aa)(h:(d_ s).2=true):(d_ s).1.length+1=s.length:=by
 unfold d_ at*;split at h<;>simp_all
def af7(s:aa)(p:UInt8->Bool)(h:s.all p=true):(ff s).all p=true:=by
 induction s with
 |nil=>simpa[ff]using h
 |cons c r ih=>
  unfold ff;split
  ·rename_i kZ;simp at kZ;rw[<-kZ.2];exact ih (by simp at h|-;exact h.2)
  ·exact h
def o8(s:aa):(digits s).1.all cg=true:=by
 unfold digits;split
 ·rename_i h;exact af7 _ _ h
 ·rfl
def ada(s:aa):(canon s).length<=s.length:=by
 have h1:=ma s;unfold canon;split
 ·rename_i h;have:(d_ s).2=true:=by
   unfold digits at h;split at h<;>simp_all
  have h2:=aro s this;have h3:(digits s).1.length<=(d_ s).1.length:=by
   unfold digits;split
   ·exact Gs _
   ·simp
  simp;omega
 ·exact h1
def afl(s:aa)(h:(digits s).2=true):(digits s).1.length+1<=s.length:=by
 have:=ada s;unfold canon at this;rw[aV h]at this;simpa using this
def K2(s:aa):(s.drop 1).take (s.length-1)=s.drop 1:=gZ zS
def Sm{s cur:aa}(hd:(d_ s).1.all cg=true)(hx:ff cur=ff (d_ s).1)(h:(cur.length:Int)<=0\/¬((cur.headD 0).toNat:Int)=48):cur=(digits s).1:=by
 unfold digits;rw[aV hd,<-hx];exact(wB zO).symm
def Sn{s cur:aa}(hd:(d_ s).1.all cg=true)(hx:ff cur=ff (d_ s).1)(h:(cur.length:Int)<=0\/¬((cur.headD 0).toNat:Int)=48):((d_ s).2&&decide ((0:Int)<cur.length))=(digits s).2:=by
 unfold digits;rw[aV hd,<-hx,wB zO];cases cur<;>simp<;>omega
def Gh{s pre rest:aa}{x:UInt8}(hx:(d_ s).1=pre++x::rest)(h:(x.toNat:Int)<48\/57<(x.toNat:Int)):digits s=([],false):=by
 unfold digits;rw[aF];rw[hx];simp only[lE,kJ,bd,not_and];intro _ h2;simp[cg]at h2;omega
def su{α:Type}{p:List α->Prop}(h0:p [])(h1:∀l a,p l->p (l++[a]))(l:List α):p l:=by
  rw[<-G9 l];induction l.reverse with
  |nil=>simpa
  |cons a l ih=>simpa using h1 _ a ih
def vi(d:aa)(c:UInt8):natVal (d++[c])=10*natVal d+(c.toNat-48):=by simp[natVal]
def re:∀(d:aa),d.all cg=true->natVal d<10^d.length:=by
  refine su (by simp[natVal]) ?_;intro d c ih h;simp only[lE,kJ,JK,AA,bd]at h;have:=ih h.1;have hc:c.toNat-48<=9:=by have:=h.2;simp[cg]at this;omega
  rw[vi,bl,nR,lN];omega
def OE{d:aa}(h:d.all cg=true)(hl:d.length<=17):natVal d<100000000000000000:=by
  have h1:=re d h;have h2:10^d.length<=10^17:=eE zO hl;omega
def gK(n:Nat):aa:=if h:n=0 then[]else gK (n/10)++[UInt8.ofNat (48+n%10)]
decreasing_by omega
def ofInt(n:Int):aa:=if n<0 then 45::gK n.natAbs else gK n.natAbs
def rE(a b:aa):aa:=ofInt (val a+val b)
def kK:gK 0=[]:=by rw[gK];simp
def tQ{n:Nat}(h:n≠0):gK n=gK (n/10)++[UInt8.ofNat (48+n%10)]:=by rw[gK];simp[h]
def BH(k:Nat):∀n,n<10^k->(gK n).length<=k:=by
  induction k with
  |zero=>
      intro n h;obtain rfl:n=0:=by omega
      simp[kK]
  |succ k ih=>
    intro n h;by_cases e:n=0
    · subst e;simp[kK]
    · rw[tQ e]
      have:=ih (n/10) (by rw[lN]at h;omega);simp;omega
def Yf{c:Int}(h:c≠0):gK c.natAbs=gK (c.tdiv 10).natAbs++[UInt8.ofNat (48+c.natAbs%10)]:=by
  rw[tQ zO,Int.natAbs_tdiv];rfl
def asX(c:Int):(c.tmod 10).natAbs=c.natAbs%10:=by rw[Int.natAbs_tmod];rfl
def arH(c:Int):(c.tdiv 10).natAbs=c.natAbs/10:=by rw[Int.natAbs_tdiv];rfl
def aa8{s:aa}(h:(digits s).1.length<=17):-100000000000000000<val s/\val s<100000000000000000:=by
  have:=OE (o8 s) h;unfold val;split<;>omega
def Qu{n:Int}(h1:-2147483648<=n)(h2:n<=2147483647):IntKind.i32.wrap n=n:=IntWalk.i32_in n ⟨h1,h2⟩
def Es(n:Nat):(gK n).all cg=true:=by
 induction n using Nat.strongRecOn with
 |_ n ih=>
  by_cases e:n=0
  ·subst e;simp[kK]
  ·rw[tQ e,lE,ih (n/10) zO];have:(48+n%10)%256=48+n%10:=oZ zO;simp[cg,this];omega
def Yh(n:Nat):natVal (gK n)=n:=by
 induction n using Nat.strongRecOn with
 |_ n ih=>
  by_cases e:n=0
  ·subst e;simp[kK,natVal]
  ·rw[tQ e,vi,ih (n/10) zO];have:(48+n%10)%256=48+n%10:=oZ zO;simp[this];omega
def Et{n:Nat}:gK n=[]↔n=0:=by
 constructor
 ·intro h;by_cases e:n=0
  ·exact e
  ·rw[tQ e]at h;simp at h
 ·rintro rfl;exact kK
def OB(n:Nat):∀c r,gK n=c::r->c.toNat≠48:=by
 induction n using Nat.strongRecOn with
 |_ n ih=>
  intro c r h;by_cases e:n=0
  ·subst e;simp[kK]at h
  ·rw[tQ e]at h;by_cases e2:n/10=0
   ·rw[e2,kK]at h;simp only[q_,l_]at h;rw[<-h.1];have:(48+n%10)%256=48+n%10:=oZ zO;simp[this];omega
   ·cases hd:gK (n/10)with
    |nil=>exact absurd (Et.1 hd) e2
    |cons c' r'=>
     rw[hd]at h;simp only[jF,l_]at h;rw[<-h.1];exact ih (n/10) zO c' r' hd
def SC(n:Nat):ff (gK n)=gK n:=by
 apply wB;intro⟨h1,h2⟩;cases hd:gK n with
 |nil=>simp[hd]at h1
 |cons c r=>rw[hd]at h2;exact OB n c r hd (by simpa using h2)
def arn{s:aa}(h:s.all cg=true):d_ s=(s,false):=by
 apply vU;intro⟨h1,h2⟩;cases s with
 |nil=>simp at h1
 |cons c r=>
  simp only[kJ,bd,cg,cd]at h;simp at h2;omega
def afm(n:Int):digits (ofInt n)=(gK n.natAbs,decide (n<0)):=by
 unfold ofInt;split
 ·rename_i h;have:d_ (45::gK n.natAbs)=(gK n.natAbs,true):=rfl;unfold digits;rw[this];simp only[Es,mX,SC,h,C7,oL];have:gK n.natAbs≠[]:=by rw[ne_eq,Et];omega
  simp[this]
 ·rename_i h;unfold digits;rw[arn (Es _)];simp[Es,SC,h]
def gO(n:Int):val (ofInt n)=n:=by
 unfold val;rw[afm];simp only[Yh,cd];split<;>omega
def Yy{n:Int}:ofInt n=[]↔n=0:=by
 unfold ofInt;split
 ·simp;omega
 ·rw[Et];omega
def OP:ofInt 0=[]:=Yy.2 rfl
def Bg{α β:Type}[Inhabited α]{l pre rest:List α}{n:Int}(f:α->β)(h:l=pre++rest)(h0:0<pre.length)(hn:n=(pre.length:Int)-1):(l.map f)[n.toNat]?=some (f (pre.getLastD default)):=by
 subst h;subst hn;have e:((pre.length:Int)-1).toNat=pre.length-1:=by omega
 rw[e,fR,r7 zO];have:pre[pre.length-1]?=some (pre.getLastD default):=by
  rw[<-List.getLast?_eq_getElem?];cases pre with
  |nil=>simp at h0
  |cons a l=>simp[List.getLast?_cons,List.getLastD_cons,vX]
 rw[this];rfl
def opposite(e:Entry):Entry:={e with lines:=e.lines.map fun l=>{l with Ka:=oI l.Ka}}
@[reducible] def bG(m:List Nat):List (List D):=m.map fun(n:Nat)=>[.raw (.int .u64 (n:Int))]
@[reducible] def bk(m:List Nat):D:=.snap 1 false (bG m)
@[reducible] def pQ(dw:Bool)(m:List Nat):List D:=[.b dw,bk m]
def VR{α β:Type}(f:α->β)(i:List α)(x:α){n:Int}(hn:n=((i++[x]).map f).length-1):((i++[x]).map f)[n.toNat]?=some (f x):=by
 have:n.toNat=i.length:=by rw[hn];simp
 rw[this];simp
def vp{env:Env}{x:Operand}{k:IntKind}{n m:Int}(h:env.op x=some (.raw (.int k n)))(e:n=m):env.op x=some (.raw (.int k m)):=by rw[h,e]
def gB:Nat:=1000000000
def an:List Nat->Nat
 |[]=>0
 |x::r=>x+gB*an r
def aZ(m:List Nat):Prop:=∀x∈m,x<gB
def bu(m:List Nat):List Nat:=(m.reverse.dropWhile (· ==0)).reverse
def np{α:Type}(l:List α):l=[]\/∃i x,l=i++[x]:=by
 rcases List.eq_nil_or_concat l with h|⟨i,x,h⟩
 ·exact .inl h
 ·exact .inr ⟨i,x,by rw[h,List.concat_eq_append]⟩
def ur(i:List Nat):bu (i++[0])=bu i:=by simp[bu]
def Ao(i:List Nat){x:Nat}(h:x≠0):bu (i++[x])=i++[x]:=by simp[bu,h]
def xk(a b:List Nat):an (a++b)=an a+gB^a.length*an b:=by
 induction a with
 |nil=>simp[an]
 |cons x a ih=>simp only[jF,an,ih,bD,lN];rw[jN,fO (gB^a.length) gB,iv];omega
def ve{m:List Nat}(h:aZ m):an m<gB^m.length:=by
 induction m with
 |nil=>simp[an]
 |cons x m ih=>
  have h1:=ih (fun y hy=>h y (cC _ hy));have h2:=h x c7;simp only[an,bD,lN];have:gB*(an m+1)<=gB*gB^m.length:=jg _ h1;rw[fO (gB^m.length)];rw[jN]at this;omega
def Gd(m:List Nat):an (bu m)=an m:=by
 induction m using su with
 |h0=>rfl
 |h1 i x ih=>
  by_cases h:x=0
  ·subst h;rw[ur,ih,xk];simp[an]
  ·rw[Ao i h]
def aeH(m:List Nat):∀x∈bu m,x∈m:=by
 intro x hx;unfold bu at hx;rw[List.mem_reverse]at hx;have:=(List.dropWhile_sublist _).mem hx;simpa using this
def An{m:List Nat}(h:aZ m):aZ (bu m):=fun x hx=>h x (aeH m x hx)
def wy(m:List Nat):(bu m).length<=m.length:=by
 unfold bu;rw[HZ];exact dM (List.dropWhile_sublist _).length_le zS
def gd(s:aa):List Nat:=if h:s.length=0 then[]else natVal (s.drop (s.length-9))::gd (s.take (s.length-9))
termination_by s.length
decreasing_by simp;omega
def uJ:gd []=[]:=by rw[gd];simp
def AO{s:aa}(h:s.length≠0):gd s=natVal (s.drop (s.length-9))::gd (s.take (s.length-9)):=by rw[gd,dif_neg h]
def xm(a b:aa):natVal (a++b)=natVal a*10^b.length+natVal b:=by
 induction b using su with
 |h0=>simp[natVal]
 |h1 i x ih=>
   rw[<-ng,vi,ih,vi,bl,nR,lN,jN,<-iv];have:10*natVal a*10^i.length=natVal a*(10^i.length*10):=by rw[fO 10 (natVal a),iv,fO 10]
   omega
def rL(s:aa):(gd s).length<=s.length:=by
 induction h:s.length using Nat.strongRecOn generalizing s with
 |_ n ih=>
  by_cases h0:s.length=0
  ·have:s=[]:=cc.1 h0;subst this;rw[uJ];simp
  ·rw[AO h0,bD];have:=ih (s.take (s.length-9)).length zQ (s.take (s.length-9)) rfl;simp at this|-;omega
def Md(s:aa)(hd:s.all cg=true):aZ (gd s)/\an (gd s)=natVal s:=by
 induction h:s.length using Nat.strongRecOn generalizing s with
 |_ n ih=>
  by_cases h0:s.length=0
  ·have:s=[]:=cc.1 h0;subst this;rw[uJ];exact⟨fun x hx=>absurd hx zS,rfl⟩
  ·rw[AO h0];have hs:s=s.take (s.length-9)++s.drop (s.length-9):=(lG ..).symm;have UT:(s.take (s.length-9)).all cg=true/\(s.drop (s.length-9)).all cg=true:=by
    rw[hs,lE,bd]at hd;exact hd
   obtain⟨h1,h2⟩:=ih (s.take (s.length-9)).length zQ (s.take (s.length-9)) UT.1 rfl;have hl:(s.drop (s.length-9)).length<=9:=by simp;omega
   have h3:=re _ UT.2;have h4:10^(s.drop (s.length-9)).length<=10^9:=eE zO hl;have h5:natVal (s.drop (s.length-9))<gB:=by unfold gB;omega
   refine⟨fun x hx=>?_,?_⟩
   ·rcases cr.1 hx with rfl|hx
    ·exact h5
    ·exact h1 x hx
   ·simp only[an,h2];conv=>rhs;rw[hs,xm]
    by_cases h9:s.length<=9
    ·have:s.length-9=0:=by omega
     rw[this];simp[natVal]
    ·have:(s.drop (s.length-9)).length=9:=by simp;omega
     rw[this,fO (natVal (s.take (s.length-9)))];unfold gB;omega
end Go.T
