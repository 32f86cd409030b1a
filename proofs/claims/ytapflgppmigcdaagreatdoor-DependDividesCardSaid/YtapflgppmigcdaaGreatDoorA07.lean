/-
  Contracts of the functions that the statement reaches, and the logic in which they are proved (no condition): parts W2, Tab, W70, Spec2, Spec3, Spec4, Spec5, Spec6, Spec7, Spec8.
-/
import Derived.Test.YtapflgppmigcdaaGreatDoorA06
import Derived.Test.YtapflgppmigcdaaGreatDoorProg
import Derived.KernelRfl
set_option linter.all false
namespace Go.T
open Go Go.Proofs Go.Proofs.Tryz
set_option maxRecDepth 20000
theorem nC:Tryz.prog.follows .mixedOrders=true:=by kernel_rfl
theorem D2(s:aa):Fc Tryz.prog 38 [.str s] (.b (decide (13<s.length))):=by
 refine Fc.mk' [2] func38 rfl ntmps38 rfl rfl rfl (fun t w=>results_tmp results38 t _ w) ?_;refine J.seq (J.af [.p] ?_);refine .ag rfl rfl<|.nil ?_;refine J.seq (J.af [.p,.p,.p,.p] ?_);refine .mv rfl rfl<|.P rfl (fZ underlying33 rfl)<|.P rfl (gp rfl rfl)<|.ag rfl rfl<|.nil ?_;refine J.ret (?_);exact dF rfl (Sub.bool (by grind))
structure af3(s:aa)where
 pre:List UInt8
 rest:List UInt8
 hx:s=pre++rest
 hp:pre.all q0=true
theorem Ba(s:aa):Fc Tryz.prog 94 [.str s] (.b (isName s)):=by
 refine Fc.mk' [2] func94 rfl ntmps94 rfl rfl rfl (fun t w=>results_tmp results94 t _ w) ?_;refine J.l7 0 rfl (fun hb=>?_);simp only[aG]at hb;refine J.seq (J.af [.p] ?_);refine .ag rfl rfl<|.nil ?_;refine J.seq (J.seq (J.af [.p] ?_));refine .ag rfl rfl<|.nil ?_;refine J.block ?_;refine J.loop (ι:=af3 s) (fun sx=>[(0,.str s),(3,.i sx.pre.length)]) (fun sx=>[]) (fun sx=>sx.rest.length) ⟨[],s,rfl,rfl⟩ ?_ ?_
 ·exact Le.mk rfl (.s rfl rfl (.s rfl rfl .nil)) .nil
 ·rintro⟨pre,rest,hx,hp⟩;show J _ _ _ _ [(0,.str s),(3,.i pre.length)] [];have hl:=congrArg List.length hx;simp only[List.length_append]at hl;rcases rest with _|⟨x,rest⟩
  ·skip;refine J.seq (J.seq (J.af [.p,.p,.p,.p] ?_));refine .mv rfl rfl<|.mv rfl rfl<|.P rfl (fZ underlying9 rfl)<|.P rfl (b_ rfl rfl)<|.nil ?_;refine J.eQ rfl (by simp at hl⊢;omega) ?_;refine J.exit (ei (dZ ?_));refine J.seq (J.af [.p,.p,.p,.p,.p,.p,.p,.p,.p] ?_);refine .mv rfl rfl<|.P rfl (fZ underlying9 rfl)<|.P rfl (pY rfl rfl)<|.mv rfl rfl<|.gT rfl (.inl rfl) rfl rfl rfl (fun hg=>pk (fun _=>aX rfl _))<|.gT rfl (.inl rfl) rfl rfl rfl (fun hg=>pk (fun _=>fZ underlying9 (bj rfl hg) _))<|.gT rfl (.inl rfl) rfl rfl rfl (fun hg=>pk (fun _=>EC (bj rfl hg) rfl _))<|.P rfl (gD rfl rfl)<|.ag rfl rfl<|.nil ?_;refine J.ret (?_);exact dF rfl (Sub.bool (by grind[isName,q0]))
  ·simp only[List.length_cons]at hl;refine J.seq (J.seq (J.af [.p,.p,.p,.p] ?_));refine .mv rfl rfl<|.mv rfl rfl<|.P rfl (fZ underlying9 rfl)<|.P rfl (b_ rfl rfl)<|.nil ?_;refine J.fD rfl zQ ?_;refine J.skip ?_;refine J.seq ?_;refine J.block ?_;refine J.seq (J.af [.p,.p,.p,.p] ?_);refine .mv rfl rfl<|.mv rfl rfl<|.P rfl (oe underlying9 rfl rfl zO (mY hx rfl))<|.ag rfl rfl<|.nil ?_;refine J.seq (J.af [.p,.p,.p,.p,.p,.p,.p,.p,.p,.p,.p,.p,.p,.p,.p,.p,.p,.p] ?_);refine .mv rfl rfl<|.P rfl (b_ rfl rfl)<|.mv rfl rfl<|.gF rfl (.inl rfl) rfl rfl rfl (fun hg=>pk (fun _=>aX rfl _))<|.gF rfl (.inl rfl) rfl rfl rfl (fun hg=>pk (fun _=>gp (bj rfl (nt hg)) rfl _))<|.P rfl (nq rfl rfl)<|.mv rfl rfl<|.gT rfl (.inl rfl) rfl rfl rfl (fun hg=>pk (fun _=>aX rfl _))<|.gT rfl (.inl rfl) rfl rfl rfl (fun hg=>pk (fun _=>b_ (bj rfl hg) rfl _))<|.gT rfl (.inl rfl) rfl rfl rfl (fun hg=>pk (fun _=>aX (bj rfl hg) _)) ?_;refine .nF rfl (.inl rfl) rfl rfl rfl (fun hc hg=>pk (fun _=>aX rfl _)) ?_;refine .nF rfl (.inl rfl) rfl rfl rfl (fun hc hg=>pk (fun _=>gp (bj rfl (bF hc hg)) rfl _)) ?_;refine .gT rfl (.inl rfl) rfl rfl rfl (fun hg=>pk (fun _=>nq (bj rfl hg) (Jw rfl hg) _))<|.P rfl (gD rfl rfl)<|.mv rfl rfl<|.gT rfl (.inl rfl) rfl rfl rfl (fun hg=>pk (fun _=>aX rfl _))<|.gT rfl (.inl rfl) rfl rfl rfl (fun hg=>pk (fun _=>wO (bj rfl hg) rfl _))<|.P rfl (gD rfl rfl)<|.nil ?_;refine J.cond rfl (fun h1=>?_) (fun h1=>?_)
   ·refine J.seq (J.af [.p] ?_);refine .ag rfl rfl<|.nil ?_;refine J.ret (jn (rr (jn (?_))));exact dF rfl (Sub.bool (by grind[isName,q0]))
   ·refine J.skip ?_;refine J.nil (cC ?_);refine J.af [.p,.p,.p] ?_;refine .mv rfl rfl<|.P rfl (bU rfl rfl (az zO))<|.ag rfl rfl<|.nil ?_;refine J.nil (dG ?_);exact⟨⟨pre++[x],rest,by simp[hx],by grind[q0]⟩,by simp,Le.mk rfl (.s rfl rfl (.cons rfl (Sub.int zS) rfl .nil)) .nil⟩
end Go.T
namespace Go.T
open Go Go.Proofs
set_option maxRecDepth 20000
def tk2:{i:bp//bK (Tryz.prog) 2 i}:=⟨_,dj [.raw (.int .i64 0)] Tryz.underlying2 Tryz.isAgg2 Tryz.sizeOf2 Tryz.zeroValue2 rfl⟩
def tk3:{i:bp//bK (Tryz.prog) 3 i}:=⟨_,dj [.raw (.int .i64 0)] Tryz.underlying3 Tryz.isAgg3 Tryz.sizeOf3 Tryz.zeroValue3 rfl⟩
def tk4:{i:bp//bK (Tryz.prog) 4 i}:=⟨_,dj [.raw (.bool false)] Tryz.underlying4 Tryz.isAgg4 Tryz.sizeOf4 Tryz.zeroValue4 rfl⟩
def tk5:{i:bp//bK (Tryz.prog) 5 i}:=⟨_,dj [.raw (.int .u8 0)] Tryz.underlying5 Tryz.isAgg5 Tryz.sizeOf5 Tryz.zeroValue5 rfl⟩
def tk9:{i:bp//bK (Tryz.prog) 9 i}:=⟨_,dj [.str []] Tryz.underlying9 Tryz.isAgg9 Tryz.sizeOf9 Tryz.zeroValue9 rfl⟩
def akx:{i:bp//bK (Tryz.prog) 21 i}:=⟨_,dj [.raw (.int .i32 0)] Tryz.underlying21 Tryz.isAgg21 Tryz.sizeOf21 Tryz.zeroValue21 rfl⟩
def aky:{i:bp//bK (Tryz.prog) 22 i}:=⟨_,dj [.raw (.slice none 0 0)] Tryz.underlying22 Tryz.isAgg22 Tryz.sizeOf22 Tryz.zeroValue22 rfl⟩
def akA:{i:bp//bK (Tryz.prog) 23 i}:=⟨_,dj [.raw (.slice none 0 0)] Tryz.underlying23 Tryz.isAgg23 Tryz.sizeOf23 Tryz.zeroValue23 rfl⟩
def akB:{i:bp//bK (Tryz.prog) 24 i}:=⟨_,dj [.raw (.slice none 0 0)] Tryz.underlying24 Tryz.isAgg24 Tryz.sizeOf24 Tryz.zeroValue24 rfl⟩
def akE:{i:bp//bK (Tryz.prog) 25 i}:=⟨_,dj [.raw (.slice none 0 0)] Tryz.underlying25 Tryz.isAgg25 Tryz.sizeOf25 Tryz.zeroValue25 rfl⟩
def akF:{i:bp//bK (Tryz.prog) 26 i}:=⟨_,dj [.raw (.slice none 0 0)] Tryz.underlying26 Tryz.isAgg26 Tryz.sizeOf26 Tryz.zeroValue26 rfl⟩
def akL:{i:bp//bK (Tryz.prog) 28 i}:=⟨_,ou [(0,1),(1,1)] [.raw (.slice none 0 0),.raw (.slice none 0 0)] Tryz.underlying28 Tryz.isAgg28 Tryz.sizeOf28 Tryz.zeroValue28 rfl (fun w=>by kernel_rfl)⟩
def akM:{i:bp//bK (Tryz.prog) 30 i}:=⟨_,ou [(0,1),(1,1),(2,1),(3,2),(5,1),(6,1)] [.raw (.slice none 0 0),.raw (.slice none 0 0),.raw (.slice none 0 0),.raw (.slice none 0 0),.raw (.slice none 0 0),.raw (.slice none 0 0),.raw (.int .i64 0)] Tryz.underlying30 Tryz.isAgg30 Tryz.sizeOf30 Tryz.zeroValue30 rfl (fun w=>by kernel_rfl)⟩
def akN:{i:bp//bK (Tryz.prog) 31 i}:=⟨_,dj [.raw (.slice none 0 0)] Tryz.underlying31 Tryz.isAgg31 Tryz.sizeOf31 Tryz.zeroValue31 rfl⟩
def akO:{i:bp//bK (Tryz.prog) 32 i}:=⟨_,dj [.raw (.int .i64 0)] Tryz.underlying32 Tryz.isAgg32 Tryz.sizeOf32 Tryz.zeroValue32 rfl⟩
def akP:{i:bp//bK (Tryz.prog) 33 i}:=⟨_,dj [.str []] Tryz.underlying33 Tryz.isAgg33 Tryz.sizeOf33 Tryz.zeroValue33 rfl⟩
def akQ:{i:bp//bK (Tryz.prog) 35 i}:=⟨_,ou [(0,1),(1,1)] [.str [],.str []] Tryz.underlying35 Tryz.isAgg35 Tryz.sizeOf35 Tryz.zeroValue35 rfl (fun w=>by kernel_rfl)⟩
def akR:{i:bp//bK (Tryz.prog) 36 i}:=⟨_,dj [.raw (.slice none 0 0)] Tryz.underlying36 Tryz.isAgg36 Tryz.sizeOf36 Tryz.zeroValue36 rfl⟩
def akS:{i:bp//bK (Tryz.prog) 37 i}:=⟨_,dj [.raw (.slice none 0 0)] Tryz.underlying37 Tryz.isAgg37 Tryz.sizeOf37 Tryz.zeroValue37 rfl⟩
def akT:{i:bp//bK (Tryz.prog) 39 i}:=⟨_,ou [(0,1),(1,1),(2,1),(3,1),(4,1),(5,1),(6,1),(7,1),(8,1),(9,1),(10,1),(11,1),(12,2),(14,2),(16,2),(18,1),(19,1),(20,1)] [.str [],.raw (.int .i64 0),.raw (.bool false),.raw (.int .i64 0),.raw (.int .i64 0),.str [],.str [],.str [],.str [],.str [],.str [],.str [],.str [],.str [],.str [],.str [],.str [],.str [],.raw (.slice none 0 0),.raw (.slice none 0 0),.raw (.int .i64 0)] Tryz.underlying39 Tryz.isAgg39 Tryz.sizeOf39 Tryz.zeroValue39 rfl (fun w=>by kernel_rfl)⟩
def akU:{i:bp//bK (Tryz.prog) 41 i}:=⟨_,dj [.raw .nilFunc] Tryz.underlying41 Tryz.isAgg41 Tryz.sizeOf41 Tryz.zeroValue41 rfl⟩
def akV:{i:bp//bK (Tryz.prog) 43 i}:=⟨_,dj [.raw (.slice none 0 0)] Tryz.underlying43 Tryz.isAgg43 Tryz.sizeOf43 Tryz.zeroValue43 rfl⟩
def akW:{i:bp//bK (Tryz.prog) 44 i}:=⟨_,dj [.raw (.int .i64 0)] Tryz.underlying44 Tryz.isAgg44 Tryz.sizeOf44 Tryz.zeroValue44 rfl⟩
def akX:{i:bp//bK (Tryz.prog) 48 i}:=⟨_,dj [.raw (.slice none 0 0)] Tryz.underlying48 Tryz.isAgg48 Tryz.sizeOf48 Tryz.zeroValue48 rfl⟩
def akY:{i:bp//bK (Tryz.prog) 51 i}:=⟨_,dj [.raw .nilFunc] Tryz.underlying51 Tryz.isAgg51 Tryz.sizeOf51 Tryz.zeroValue51 rfl⟩
def akZ:{i:bp//bK (Tryz.prog) 52 i}:=⟨_,dj [.raw .nilFunc] Tryz.underlying52 Tryz.isAgg52 Tryz.sizeOf52 Tryz.zeroValue52 rfl⟩
def ak0:{i:bp//bK (Tryz.prog) 56 i}:=⟨_,dj [.raw .nilFunc] Tryz.underlying56 Tryz.isAgg56 Tryz.sizeOf56 Tryz.zeroValue56 rfl⟩
def ak1:{i:bp//bK (Tryz.prog) 63 i}:=⟨_,dj [.raw (.map none)] Tryz.underlying63 Tryz.isAgg63 Tryz.sizeOf63 Tryz.zeroValue63 rfl⟩
def ak2:{i:bp//bK (Tryz.prog) 65 i}:=⟨_,ou [(0,1),(1,1),(2,1),(3,1),(4,1),(5,1),(6,2),(8,2),(10,1),(11,1),(12,1),(13,2)] [.str [],.raw (.int .i64 0),.str [],.raw (.int .i64 0),.raw (.int .i64 0),.raw (.int .i64 0),.str [],.str [],.str [],.str [],.raw (.int .i64 0),.raw (.int .i64 0),.str [],.str [],.str []] Tryz.underlying65 Tryz.isAgg65 Tryz.sizeOf65 Tryz.zeroValue65 rfl (fun w=>by kernel_rfl)⟩
def ak3:{i:bp//bK (Tryz.prog) 78 i}:=⟨_,dj [.raw (.slice none 0 0)] Tryz.underlying78 Tryz.isAgg78 Tryz.sizeOf78 Tryz.zeroValue78 rfl⟩
def ak4:{i:bp//bK (Tryz.prog) 81 i}:=⟨_,dj [.raw .nilFunc] Tryz.underlying81 Tryz.isAgg81 Tryz.sizeOf81 Tryz.zeroValue81 rfl⟩
def ak5:{i:bp//bK (Tryz.prog) 85 i}:=⟨_,ou [(0,1),(1,1)] [.str [],.str []] Tryz.underlying85 Tryz.isAgg85 Tryz.sizeOf85 Tryz.zeroValue85 rfl (fun w=>by kernel_rfl)⟩
def ak6:{i:bp//bK (Tryz.prog) 87 i}:=⟨_,ou [(0,1),(1,2),(3,2),(5,2)] [.str [],.str [],.str [],.str [],.str [],.str [],.str []] Tryz.underlying87 Tryz.isAgg87 Tryz.sizeOf87 Tryz.zeroValue87 rfl (fun w=>by kernel_rfl)⟩
def ak7:{i:bp//bK (Tryz.prog) 89 i}:=⟨_,ou [(0,1),(1,1)] [.str [],.raw (.int .i64 0)] Tryz.underlying89 Tryz.isAgg89 Tryz.sizeOf89 Tryz.zeroValue89 rfl (fun w=>by kernel_rfl)⟩
def ake:{i:bp//bK (Tryz.prog) 110 i}:=⟨_,ou [(0,1),(1,1)] [.str [],.raw (.int .i64 0)] Tryz.underlying110 Tryz.isAgg110 Tryz.sizeOf110 Tryz.zeroValue110 rfl (fun w=>by kernel_rfl)⟩
def akf:{i:bp//bK (Tryz.prog) 116 i}:=⟨_,dj [.raw (.slice none 0 0)] Tryz.underlying116 Tryz.isAgg116 Tryz.sizeOf116 Tryz.zeroValue116 rfl⟩
def akg:{i:bp//bK (Tryz.prog) 118 i}:=⟨_,dj [.raw (.bool false),.raw (.bool false),.raw (.bool false),.raw (.bool false),.raw (.bool false),.raw (.bool false),.raw (.bool false),.raw (.bool false),.raw (.bool false),.raw (.bool false),.raw (.bool false),.raw (.bool false),.raw (.bool false)] Tryz.underlying118 Tryz.isAgg118 Tryz.sizeOf118 Tryz.zeroValue118 rfl⟩
def akh:{i:bp//bK (Tryz.prog) 119 i}:=⟨_,dj [.raw (.map none)] Tryz.underlying119 Tryz.isAgg119 Tryz.sizeOf119 Tryz.zeroValue119 rfl⟩
def aki:{i:bp//bK (Tryz.prog) 121 i}:=⟨_,ou [(0,1),(1,1),(2,13),(15,1),(16,1)] [.str [],.raw (.int .i64 0),.raw (.bool false),.raw (.bool false),.raw (.bool false),.raw (.bool false),.raw (.bool false),.raw (.bool false),.raw (.bool false),.raw (.bool false),.raw (.bool false),.raw (.bool false),.raw (.bool false),.raw (.bool false),.raw (.bool false),.raw (.map none),.raw (.bool false)] Tryz.underlying121 Tryz.isAgg121 Tryz.sizeOf121 Tryz.zeroValue121 rfl (fun w=>by kernel_rfl)⟩
def akj:{i:bp//bK (Tryz.prog) 128 i}:=⟨_,dj [.raw (.map none)] Tryz.underlying128 Tryz.isAgg128 Tryz.sizeOf128 Tryz.zeroValue128 rfl⟩
def akk:{i:bp//bK (Tryz.prog) 137 i}:=⟨_,dj [.raw (.map none)] Tryz.underlying137 Tryz.isAgg137 Tryz.sizeOf137 Tryz.zeroValue137 rfl⟩
def akl:{i:bp//bK (Tryz.prog) 150 i}:=⟨_,dj [.raw .nilFunc] Tryz.underlying150 Tryz.isAgg150 Tryz.sizeOf150 Tryz.zeroValue150 rfl⟩
def akm:{i:bp//bK (Tryz.prog) 152 i}:=⟨_,dj [.raw (.slice none 0 0)] Tryz.underlying152 Tryz.isAgg152 Tryz.sizeOf152 Tryz.zeroValue152 rfl⟩
def akn:{i:bp//bK (Tryz.prog) 153 i}:=⟨_,dj [.raw .nilFunc] Tryz.underlying153 Tryz.isAgg153 Tryz.sizeOf153 Tryz.zeroValue153 rfl⟩
def ako:{i:bp//bK (Tryz.prog) 154 i}:=⟨_,dj [.raw .nilFunc] Tryz.underlying154 Tryz.isAgg154 Tryz.sizeOf154 Tryz.zeroValue154 rfl⟩
def akp:{i:bp//bK (Tryz.prog) 159 i}:=⟨_,dj [.raw .nilFunc] Tryz.underlying159 Tryz.isAgg159 Tryz.sizeOf159 Tryz.zeroValue159 rfl⟩
def akq:{i:bp//bK (Tryz.prog) 184 i}:=⟨_,dj [.raw (.int .u64 0)] Tryz.underlying184 Tryz.isAgg184 Tryz.sizeOf184 Tryz.zeroValue184 rfl⟩
def akr:{i:bp//bK (Tryz.prog) 192 i}:=⟨_,dj [.raw .nilFunc] Tryz.underlying192 Tryz.isAgg192 Tryz.sizeOf192 Tryz.zeroValue192 rfl⟩
def aks:{i:bp//bK (Tryz.prog) 198 i}:=⟨_,ou [(0,1),(1,1)] [.raw (.bool false),.raw .nilFunc] Tryz.underlying198 Tryz.isAgg198 Tryz.sizeOf198 Tryz.zeroValue198 rfl (fun w=>by kernel_rfl)⟩
def akt:{i:bp//bK (Tryz.prog) 199 i}:=⟨_,dj [.raw (.bool false),.raw .nilFunc,.raw (.bool false),.raw .nilFunc,.raw (.bool false),.raw .nilFunc,.raw (.bool false),.raw .nilFunc,.raw (.bool false),.raw .nilFunc,.raw (.bool false),.raw .nilFunc] Tryz.underlying199 Tryz.isAgg199 Tryz.sizeOf199 Tryz.zeroValue199 rfl⟩
def aku:{i:bp//bK (Tryz.prog) 205 i}:=⟨_,dj [.raw .nilFunc] Tryz.underlying205 Tryz.isAgg205 Tryz.sizeOf205 Tryz.zeroValue205 rfl⟩
def akv:{i:bp//bK (Tryz.prog) 206 i}:=⟨_,dj [.raw .nilFunc] Tryz.underlying206 Tryz.isAgg206 Tryz.sizeOf206 Tryz.zeroValue206 rfl⟩
def akw:{i:bp//bK (Tryz.prog) 208 i}:=⟨_,dj [.str [],.str [],.str [],.str [],.str [],.str [],.str [],.str [],.str [],.str [],.str [],.str [],.str [],.str [],.str [],.str [],.str [],.str [],.str [],.str [],.str [],.str [],.str [],.str [],.str [],.str []] Tryz.underlying208 Tryz.isAgg208 Tryz.sizeOf208 Tryz.zeroValue208 rfl⟩
def akz:{i:bp//bK (Tryz.prog) 226 i}:=⟨_,dj [.raw .nilFunc] Tryz.underlying226 Tryz.isAgg226 Tryz.sizeOf226 Tryz.zeroValue226 rfl⟩
def akC:{i:bp//bK (Tryz.prog) 244 i}:=⟨_,dj [.raw (.slice none 0 0)] Tryz.underlying244 Tryz.isAgg244 Tryz.sizeOf244 Tryz.zeroValue244 rfl⟩
def akD:{i:bp//bK (Tryz.prog) 246 i}:=⟨_,ou [(0,1),(1,1)] [.raw (.bool false),.raw (.slice none 0 0)] Tryz.underlying246 Tryz.isAgg246 Tryz.sizeOf246 Tryz.zeroValue246 rfl (fun w=>by kernel_rfl)⟩
def akG:{i:bp//bK (Tryz.prog) 260 i}:=⟨_,ou [(0,1),(1,1)] [.raw (.bool false),.raw (.slice none 0 0)] Tryz.underlying260 Tryz.isAgg260 Tryz.sizeOf260 Tryz.zeroValue260 rfl (fun w=>by kernel_rfl)⟩
def akH:{i:bp//bK (Tryz.prog) 274 i}:=⟨_,dj [.raw (.int .i64 0),.raw (.int .i64 0),.raw (.int .i64 0),.raw (.int .i64 0),.raw (.int .i64 0),.raw (.int .i64 0)] Tryz.underlying274 Tryz.isAgg274 Tryz.sizeOf274 Tryz.zeroValue274 rfl⟩
def akI:{i:bp//bK (Tryz.prog) 277 i}:=⟨_,dj [.raw .nilFunc] Tryz.underlying277 Tryz.isAgg277 Tryz.sizeOf277 Tryz.zeroValue277 rfl⟩
def akJ:{i:bp//bK (Tryz.prog) 278 i}:=⟨_,dj [.raw .nilFunc] Tryz.underlying278 Tryz.isAgg278 Tryz.sizeOf278 Tryz.zeroValue278 rfl⟩
def akK:{i:bp//bK (Tryz.prog) 279 i}:=⟨_,dj [.raw .nilFunc,.raw .nilFunc,.raw .nilFunc,.raw .nilFunc] Tryz.underlying279 Tryz.isAgg279 Tryz.sizeOf279 Tryz.zeroValue279 rfl⟩
def Tz:uW Tryz.prog:=.node 81 ak4 (.node 33 akP (.node 23 akA (.node 5 tk5 (.node 3 tk3 (.node 2 tk2 .leaf .leaf) (.node 4 tk4 .leaf .leaf)) (.node 21 akx (.node 9 tk9 .leaf .leaf) (.node 22 aky .leaf .leaf))) (.node 28 akL (.node 25 akE (.node 24 akB .leaf .leaf) (.node 26 akF .leaf .leaf)) (.node 31 akN (.node 30 akM .leaf .leaf) (.node 32 akO .leaf .leaf)))) (.node 48 akX (.node 39 akT (.node 36 akR (.node 35 akQ .leaf .leaf) (.node 37 akS .leaf .leaf)) (.node 43 akV (.node 41 akU .leaf .leaf) (.node 44 akW .leaf .leaf))) (.node 63 ak1 (.node 52 akZ (.node 51 akY .leaf .leaf) (.node 56 ak0 .leaf .leaf)) (.node 78 ak3 (.node 65 ak2 .leaf .leaf) .leaf)))) (.node 184 akq (.node 121 aki (.node 110 ake (.node 87 ak6 (.node 85 ak5 .leaf .leaf) (.node 89 ak7 .leaf .leaf)) (.node 118 akg (.node 116 akf .leaf .leaf) (.node 119 akh .leaf .leaf))) (.node 152 akm (.node 137 akk (.node 128 akj .leaf .leaf) (.node 150 akl .leaf .leaf)) (.node 154 ako (.node 153 akn .leaf .leaf) (.node 159 akp .leaf .leaf)))) (.node 244 akC (.node 205 aku (.node 198 aks (.node 192 akr .leaf .leaf) (.node 199 akt .leaf .leaf)) (.node 208 akw (.node 206 akv .leaf .leaf) (.node 226 akz .leaf .leaf))) (.node 277 akI (.node 260 akG (.node 246 akD .leaf .leaf) (.node 274 akH .leaf .leaf)) (.node 279 akK (.node 278 akJ .leaf .leaf) .leaf))))
theorem als[bV]:l4 Tryz.prog Tz.get:=⟨Tz.ok,nC⟩
theorem go[bV]{F:Fr}{cs:List Code}{Q:Exit→Env→ae→Prop}{env:Env}{U:ae}(stop:List Nat)(h:gz Tz.get Tryz.prog F stop Q 3000 (.code cs [] env U)):J Tryz.prog F cs Q env U:=abA als 3000 cs Q env U h
open Go.Proofs.Tryz
structure abM(l:List aP)where
 pre:List aP
 rest:List aP
 hx:l=pre++rest
 hp:pre.any z8=false
theorem abL(l:List aP):Fc Tryz.prog 116 [y8 l] (.b (l.any z8)):=by
 refine Fc.mk' [2] func116 rfl ntmps116 rfl rfl rfl (fun t w=>results_tmp results116 t _ w) ?_;refine J.ej 0 rfl (fun hb=>?_);simp only[List.length_map,aG]at hb;refine go [] ?_;refine J.loop (ι:=abM l) (fun sx=>[(0,y8 l),(2,.b false),(3,.i sx.pre.length)]) (fun sx=>[]) (fun sx=>sx.rest.length) ⟨[],_,rfl,rfl⟩ ?_ ?_
 ·exact Le.mk rfl (.s rfl rfl (.s rfl rfl (.s rfl rfl .nil))) .nil
 ·rintro⟨pre,rest,hx,hp⟩;show J _ _ _ _ [(0,y8 l),(2,.b false),(3,.i pre.length)] [];have hl:=congrArg List.length hx;simp only[List.length_append]at hl;rcases rest with _|⟨x,rest⟩
  ·skip;refine go [] ?_;refine aR (by simp at hl⊢;omega) ?_;refine go [] ?_;exact ah rfl (Sub.bool (by exact(qg hx hp).symm))
  ·simp only[List.length_cons]at hl;refine go [] ?_;refine a_ zQ ?_;refine ix zO (bn cG hx rfl) ?_;refine wb (fun hg=>And.intro zO (bn cG hx rfl)) ?_;refine br (fun h1=>?_) (fun h1=>?_)
   ·exact ah rfl (Sub.bool (by exact(qh hx h1).symm))
   ·refine sd (az zO) ?_;exact nx ⟨pre++[x],rest,by simp[hx],ku hp h1⟩ zS (Le.mk rfl (.s rfl rfl (.s rfl rfl (.cons rfl (Sub.int zS) rfl .nil))) .nil)
structure ae_(l:List aP)where
 pre:List aP
 rest:List aP
 hx:l=pre++rest
 hp:pre.any nX=false
theorem ae9(l:List aP):Fc Tryz.prog 84 [y8 l] (.b (l.any nX)):=by
 refine Fc.mk' [2] func84 rfl ntmps84 rfl rfl rfl (fun t w=>results_tmp results84 t _ w) ?_;refine J.ej 0 rfl (fun hb=>?_);simp only[List.length_map,aG]at hb;refine go [] ?_;refine J.loop (ι:=ae_ l) (fun sx=>[(0,y8 l),(2,.b false),(3,.i sx.pre.length)]) (fun sx=>[]) (fun sx=>sx.rest.length) ⟨[],_,rfl,rfl⟩ ?_ ?_
 ·exact Le.mk rfl (.s rfl rfl (.s rfl rfl (.s rfl rfl .nil))) .nil
 ·rintro⟨pre,rest,hx,hp⟩;show J _ _ _ _ [(0,y8 l),(2,.b false),(3,.i pre.length)] [];have hl:=congrArg List.length hx;simp only[List.length_append]at hl;rcases rest with _|⟨x,rest⟩
  ·skip;refine go [] ?_;refine aR (by simp at hl⊢;omega) ?_;refine go [] ?_;exact ah rfl (Sub.bool (by exact(qg hx hp).symm))
  ·simp only[List.length_cons]at hl;refine go [] ?_;refine a_ zQ ?_;refine ix zO (bn cG hx rfl) ?_;refine wb (fun hg=>And.intro zO (bn cG hx rfl)) ?_;refine br (fun h1=>?_) (fun h1=>?_)
   ·exact ah rfl (Sub.bool (by exact(qh hx h1).symm))
   ·refine sd (az zO) ?_;exact nx ⟨pre++[x],rest,by simp[hx],ku hp h1⟩ zS (Le.mk rfl (.s rfl rfl (.s rfl rfl (.cons rfl (Sub.int zS) rfl .nil))) .nil)
structure abO(l:List bJ)where
 pre:List bJ
 rest:List bJ
 hx:l=pre++rest
 hp:pre.any Dh=false
theorem abN(l:List bJ):Fc Tryz.prog 79 [j0 l] (.b (Di l)):=by
 refine Fc.mk' [2] func79 rfl ntmps79 rfl rfl rfl (fun t w=>results_tmp results79 t _ w) ?_;refine J.ej 0 rfl (fun hb=>?_);simp only[List.length_map,aG]at hb;refine go [] ?_;refine J.loop (ι:=abO l) (fun sx=>[(0,j0 l),(2,.b false),(3,.i sx.pre.length)]) (fun sx=>[]) (fun sx=>sx.rest.length) ⟨[],_,rfl,rfl⟩ ?_ ?_
 ·exact Le.mk rfl (.s rfl rfl (.s rfl rfl (.s rfl rfl .nil))) .nil
 ·rintro⟨pre,rest,hx,hp⟩;show J _ _ _ _ [(0,j0 l),(2,.b false),(3,.i pre.length)] [];have hl:=congrArg List.length hx;simp only[List.length_append]at hl;rcases rest with _|⟨x,rest⟩
  ·skip;refine go [] ?_;refine aR (by simp at hl⊢;omega) ?_;refine go [] ?_;exact ah rfl (Sub.bool (by exact k6 (qg hx hp) zS))
  ·simp only[List.length_cons]at hl;refine go [] ?_;refine a_ zQ ?_;refine ix zO (bn iD hx rfl) ?_;refine gP (fun hg=>bI (n:=3) (rows:=[cG x.j7,cG x.j6,cG x.kp]) underlying116 sizeOf35 rfl rfl rfl zeroValue35 rfl rfl rfl rfl rfl rfl rfl) ?_;refine gP (fun hg=>ai call116 rfl (abL [x.j7,x.j6,x.kp]).sub) ?_;refine br (fun h1=>?_) (fun h1=>?_)
   ·exact ah rfl (Sub.bool (by exact sL (qh hx h1)))
   ·refine sd (az zO) ?_;exact nx ⟨pre++[x],rest,by simp[hx],ku hp h1⟩ zS (Le.mk rfl (.s rfl rfl (.s rfl rfl (.cons rfl (Sub.int zS) rfl .nil))) .nil)
structure abU(l:List cp)where
 pre:List cp
 rest:List cp
 hx:l=pre++rest
 hp:pre.any (fun c=>gt 8 c.code)=false
 xO:pre.length≤24
theorem abT(l:List cp):Fc Tryz.prog 80 [iL l] (.b (N3 l)):=by
 refine Fc.mk' [2] func80 rfl ntmps80 rfl rfl rfl (fun t w=>results_tmp results80 t _ w) ?_;refine J.ej 0 rfl (fun hb=>?_);simp only[List.length_map,aG]at hb;refine go [] ?_;refine J.loop (ι:=abU l) (fun sx=>[(0,iL l),(2,.b false),(3,.i sx.pre.length)]) (fun sx=>[]) (fun sx=>sx.rest.length) ⟨[],_,rfl,rfl,by simp⟩ ?_ ?_
 ·exact Le.mk rfl (.s rfl rfl (.s rfl rfl (.s rfl rfl .nil))) .nil
 ·rintro⟨pre,rest,hx,hp,xO⟩;show J _ _ _ _ [(0,iL l),(2,.b false),(3,.i pre.length)] [];have hl:=congrArg List.length hx;simp only[List.length_append]at hl;rcases rest with _|⟨x,rest⟩
  ·skip;refine go [] ?_;refine aR (by simp at hl⊢;omega) ?_;refine go [] ?_;exact ah rfl (Sub.bool (by exact k6 (Lm hx hp xO (by left;rfl)) zS))
  ·simp only[List.length_cons]at hl;refine go [] ?_;refine br (fun h1=>?_) (fun h1=>?_)
   ·refine ix zO (bn qq hx rfl) ?_;refine br (fun h2=>?_) (fun h2=>?_)
    ·exact ah rfl (Sub.bool (by exact sL (Vn hx h2 (by simp only[bs]at h1;omega))))
    ·refine sd (az zO) ?_;exact nx ⟨pre++[x],rest,by simp[hx],ku hp h2,by simp at h1⊢;omega⟩ zS (Le.mk rfl (.s rfl rfl (.s rfl rfl (.cons rfl (Sub.int zS) rfl .nil))) .nil)
   ·refine go [] ?_;exact ah rfl (Sub.bool (by exact k6 (Lm hx hp xO (by right;simp at h1;omega)) zS))
theorem abF(w h:List Int):Fc Tryz.prog 81 [.agg [gU w,gU h]] (.b (Ha w h)):=by
 refine Fc.mk' [2] func81 rfl ntmps81 rfl rfl rfl (fun t w=>results_tmp results81 t _ w) ?_;refine go [] ?_;exact ah rfl (Sub.bool (by simp[Ha]))
structure abS(s:Setup)where
 pre:List uV
 rest:List uV
 hx:s.xb=pre++rest
 hp:pre.any (fun a=>gt 120 a.code)=false
theorem abR(s:Setup):Fc Tryz.prog 35 [.agg (iR s)] (.b (xM s)):=by
 refine Fc.mk' [2] func35 rfl ntmps35 rfl rfl rfl (fun t w=>results_tmp results35 t _ w) ?_;refine J.rG 0 2 rfl rfl (fun hb=>?_);simp only[List.length_map,aG]at hb;refine go [] ?_;refine J.loop (ι:=abS s) (fun sx=>[(1,.box 0 0),(2,.b false),(3,.i sx.pre.length)]) (fun sx=>[(0,.cells (iR s))]) (fun sx=>sx.rest.length) ⟨[],_,rfl,rfl⟩ ?_ ?_
 ·exact Le.mk rfl (.s rfl rfl (.s rfl rfl (.s rfl rfl .nil))) (.cons rfl rfl .nil)
 ·rintro⟨pre,rest,hx,hp⟩;show J _ _ _ _ [(1,.box 0 0),(2,.b false),(3,.i pre.length)] [(0,.cells (iR s))];have hl:=congrArg List.length hx;simp only[List.length_append]at hl;rcases rest with _|⟨x,rest⟩
  ·skip;refine go [] ?_;refine aR (by simp at hl⊢;omega) ?_;refine go [] ?_;refine br (fun h1=>?_) (fun h1=>?_)
   ·exact ah rfl (Sub.bool (by exact sL (k6 (qg hx hp) (h1.symm.trans zS)).symm))
   ·refine oP (ai call79 rfl (abN _)) ?_;refine gP (fun hg=>ai call80 rfl (abT _)) ?_;refine gP (fun hg=>ai call81 rfl (abF _ _)) ?_;exact ah rfl (Sub.bool (by exact k6 (k6 (qg hx hp) (h1.symm.trans zS)).symm zS))
  ·simp only[List.length_cons]at hl;refine go [] ?_;refine a_ zQ ?_;refine ix zO (bn CO hx rfl) ?_;refine br (fun h2=>?_) (fun h2=>?_)
   ·exact ah rfl (Sub.bool (by exact sL (sL (qh hx h2)).symm))
   ·refine sd (az zO) ?_;exact nx ⟨pre++[x],rest,by simp[hx],ku hp h2⟩ zS (Le.mk rfl (.s rfl rfl (.s rfl rfl (.cons rfl (Sub.int zS) rfl .nil))) (.cons rfl rfl .nil))
theorem yk(f:aP):Fc Tryz.prog 39 [.agg (cG f)] (.b (nX f)):=by
 refine Fc.mk' [2] func39 rfl ntmps39 rfl rfl rfl (fun t w=>results_tmp results39 t _ w) ?_;refine go [] ?_;refine oP (bI (n:=1) (rows:=[cG f]) underlying116 sizeOf35 rfl rfl rfl zeroValue35 rfl rfl rfl rfl rfl rfl rfl) ?_;refine oP (ai call84 rfl (ae9 [f]).sub) ?_;exact ah rfl (Sub.bool zS)
structure abH(f:Fact)where
 pre:List cX
 rest:List cX
 hx:f.fe=pre++rest
 hp:pre.any z_=false
structure abI(f:Fact)(DG:f.fe.any z_=false)where
 yU:List cR
 y6:List cR
 x9:f.opts=yU++y6
 pF:yU.any xL=false
theorem abG(f:Fact):Fc Tryz.prog 8 [.agg (aM f)] (.b (tH f)):=by
 refine Fc.mk' [2] func8 rfl ntmps8 rfl rfl rfl (fun t w=>results_tmp results8 t _ w) ?_;refine J.rG 0 18 rfl rfl (fun hb=>?_);simp only[List.length_map,aG]at hb;refine J.rG 0 19 rfl rfl (fun fp=>?_);simp only[List.length_map,aG]at fp;refine go [] ?_;refine gP (fun hg=>ai call38 rfl (D2 _)) ?_;refine gP (fun hg=>ai call38 rfl (D2 _)) ?_;refine gP (fun hg=>ai call38 rfl (D2 _)) ?_;refine gP (fun hg=>ai call39 rfl (yk _)) ?_;refine gP (fun hg=>ai call39 rfl (yk _)) ?_;refine gP (fun hg=>ai call39 rfl (yk _)) ?_;refine br (fun h1=>?_) (fun h1=>?_)
 ·exact ah rfl (Sub.bool (by exact sL h1))
 ·refine br (fun h2=>?_) (fun h2=>?_)
  ·exact ah rfl (Sub.bool (by exact k6 h1 (sL (by simpa[xK]using h2))))
  ·refine J.loop (ι:=abH f) (fun sx=>[(1,.box 0 0),(2,.b false),(3,.i sx.pre.length)]) (fun sx=>[(0,.cells (aM f))]) (fun sx=>sx.rest.length) ⟨[],_,rfl,rfl⟩ ?_ ?_
   ·exact Le.mk rfl (.s rfl rfl (.s rfl rfl (.s rfl rfl .nil))) (.cons rfl rfl .nil)
   ·rintro⟨pre,rest,hx,hp⟩;show J _ _ _ _ [(1,.box 0 0),(2,.b false),(3,.i pre.length)] [(0,.cells (aM f))];have hl:=congrArg List.length hx;simp only[List.length_append]at hl;rcases rest with _|⟨x,rest⟩
    ·have DG:=qg hx hp;refine go [] ?_;refine aR (by simp at hl⊢;omega) ?_;refine go [] ?_;refine J.loop (ι:=abI f DG) (fun sx=>[(1,.box 0 0),(2,.b false),(4,.i sx.yU.length)]) (fun sx=>[(0,.cells (aM f))]) (fun sx=>sx.y6.length) ⟨[],_,rfl,rfl⟩ ?_ ?_
     ·exact Le.mk rfl (.s rfl rfl (.s rfl rfl (.s rfl rfl .nil))) (.cons rfl rfl .nil)
     ·rintro⟨yU,y6,x9,pF⟩;show J _ _ _ _ [(1,.box 0 0),(2,.b false),(4,.i yU.length)] [(0,.cells (aM f))];have H0:=congrArg List.length x9;simp only[List.length_append]at H0;rcases y6 with _|⟨xq,y6⟩
      ·skip;refine go [] ?_;refine aR (by simp at H0⊢;omega) ?_;refine go [] ?_;exact ah rfl (Sub.bool (by exact k6 h1 (k6 (by simpa[xK]using h2) (k6 DG (qg x9 pF).symm))))
      ·simp only[List.length_cons]at H0;refine go [] ?_;refine a_ zQ ?_;refine ix zO (bn lA x9 rfl) ?_;refine gP (fun hg=>ai call39 rfl (yk _)) ?_;refine gP (fun hg=>ai call39 rfl (yk _)) ?_;refine gP (fun hg=>ai call39 rfl (yk _)) ?_;refine br (fun h3=>?_) (fun h3=>?_)
       ·exact ah rfl (Sub.bool (by exact k6 h1 (k6 (by simpa[xK]using h2) (k6 DG (qh x9 h3).symm))))
       ·refine sd (az zO) ?_;exact nx ⟨yU++[xq],y6,by simp[x9],ku pF h3⟩ zS (Le.mk rfl (.s rfl rfl (.s rfl rfl (.cons rfl (Sub.int zS) rfl .nil))) (.cons rfl rfl .nil))
    ·simp only[List.length_cons]at hl;refine go [] ?_;refine a_ zQ ?_;refine ix zO (bn iQ hx rfl) ?_;refine wb (fun hg=>And.intro zO (bn iQ hx rfl)) ?_;refine gP (fun hg=>ai call38 rfl (D2 _)) ?_;refine br (fun h4=>?_) (fun h4=>?_)
     ·exact ah rfl (Sub.bool (by exact k6 h1 (k6 (by simpa[xK]using h2) (sL (qh hx h4)))))
     ·refine sd (az zO) ?_;exact nx ⟨pre++[x],rest,by simp[hx],ku hp h4⟩ zS (Le.mk rfl (.s rfl rfl (.s rfl rfl (.cons rfl (Sub.int zS) rfl .nil))) (.cons rfl rfl .nil))
end Go.T
namespace Go.T
open Go
theorem Dy{s:aa}{n:Int}(hn:n=0)(h:0<s.length):s[n.toNat]?=some (s.headD 0):=by
 subst hn;cases s<;>simp_all
theorem uH{s:aa}(h:0<s.length)(h':(s.headD 0).toNat=45):cL s=(s.drop 1,true):=by
 cases s with
 |nil=>simp at h
 |cons c r=>
  have:c=45:=UInt8.toNat_inj.1 (by simpa using h');subst this;rfl
theorem s7{s:aa}(h:¬(0<s.length∧(s.headD 0).toNat=45)):cL s=(s,false):=by
 cases s with
 |nil=>rfl
 |cons c r=>
  have h':c≠45:=by
   rintro rfl;simp at h
  unfold cL;split
  ·rename_i mW;simp at mW;exact absurd mW.1 h'
  ·rfl
theorem zI{s:aa}(h:0<s.length)(h':(s.headD 0).toNat=48):en s=en (s.drop 1):=by
 cases s with
 |nil=>simp at h
 |cons c r=>
  have:c=48:=UInt8.toNat_inj.1 (by simpa using h');subst this;simp[en]
theorem tA{s:aa}(h:¬(0<s.length∧(s.headD 0).toNat=48)):en s=s:=by
 cases s with
 |nil=>rfl
 |cons c r=>
  have h':c≠48:=by
   rintro rfl;simp at h
  unfold en;split
  ·rename_i mW;simp at mW;exact absurd mW.1 h'
  ·rfl
theorem CK(s:aa):(en s).length≤s.length:=by
 induction s with
 |nil=>simp[en]
 |cons c r ih=>
  unfold en;split
  ·rename_i mW;simp at mW;rw[←mW.2];simp;omega
  ·exact Nat.le_refl _
theorem E2(s:aa):(cL s).1.length≤s.length:=by
 unfold cL;split<;>simp
theorem jO(s:aa):(digits s).1.length≤s.length:=by
 unfold digits;split
 ·exact Nat.le_trans (CK _) (E2 s)
 ·simp
theorem ajI(s:aa)(h:(cL s).2=true):(cL s).1.length+1=s.length:=by
 unfold cL at*;split at h<;>simp_all
theorem YE(s:aa)(p:UInt8→Bool)(h:s.all p=true):(en s).all p=true:=by
 induction s with
 |nil=>simpa[en]using h
 |cons c r ih=>
  unfold en;split
  ·rename_i mW;simp at mW;rw[←mW.2];exact ih (by simp at h⊢;exact h.2)
  ·exact h
theorem mM(s:aa):(digits s).1.all bN=true:=by
 unfold digits;split
 ·rename_i h;exact YE _ _ h
 ·rfl
theorem V3(s:aa):(canon s).length≤s.length:=by
 have h1:=jO s;unfold canon;split
 ·rename_i h;have:(cL s).2=true:=by
   unfold digits at h;split at h<;>simp_all
  have h2:=ajI s this;have h3:(digits s).1.length≤(cL s).1.length:=by
   unfold digits;split
   ·exact CK _
   ·simp
  simp;omega
 ·exact h1
theorem X7(s:aa)(h:(digits s).2=true):(digits s).1.length+1≤s.length:=by
 have:=V3 s;unfold canon at this;rw[if_pos h]at this;simpa using this
theorem Gm(s:aa):(s.drop 1).take (s.length-1)=s.drop 1:=List.take_of_length_le zS
theorem Mu{s cur:aa}(hd:(cL s).1.all bN=true)(hx:en cur=en (cL s).1)(h:(cur.length:Int)≤0∨¬((cur.headD 0).toNat:Int)=48):cur=(digits s).1:=by
 unfold digits;rw[if_pos hd,←hx];exact(tA zO).symm
theorem Mv{s cur:aa}(hd:(cL s).1.all bN=true)(hx:en cur=en (cL s).1)(h:(cur.length:Int)≤0∨¬((cur.headD 0).toNat:Int)=48):((cL s).2&&decide ((0:Int)<cur.length))=(digits s).2:=by
 unfold digits;rw[if_pos hd,←hx,tA zO];cases cur<;>simp<;>omega
theorem CD{s pre rest:aa}{x:UInt8}(hx:(cL s).1=pre++x::rest)(h:(x.toNat:Int)<48∨57<(x.toNat:Int)):digits s=([],false):=by
 unfold digits;rw[if_neg];rw[hx];simp only[List.all_append,List.all_cons,Bool.and_eq_true,not_and];intro _ h2;simp[bN]at h2;omega
theorem pd{α:Type}{p:List α→Prop}(h0:p [])(h1:∀l a,p l→p (l++[a]))(l:List α):p l:=by
  rw[←List.reverse_reverse l];induction l.reverse with
  |nil=>simpa
  |cons a l ih=>simpa using h1 _ a ih
theorem sv(d:aa)(c:UInt8):natVal (d++[c])=10*natVal d+(c.toNat-48):=by simp[natVal]
theorem o8:∀(d:aa),d.all bN=true→natVal d<10^d.length:=by
  refine pd (by simp[natVal]) ?_;intro d c ih h;simp only[List.all_append,List.all_cons,List.all_nil,Bool.and_true,Bool.and_eq_true]at h;have:=ih h.1;have hc:c.toNat-48≤9:=by have:=h.2;simp[bN]at this;omega
  rw[sv,List.length_append,List.length_singleton,Nat.pow_succ];omega
theorem Je{d:aa}(h:d.all bN=true)(hl:d.length≤17):natVal d<100000000000000000:=by
  have h1:=o8 d h;have h2:10^d.length≤10^17:=Nat.pow_le_pow_right zO hl;omega
def fu(n:Nat):aa:=if h:n=0 then[]else fu (n/10)++[UInt8.ofNat (48+n%10)]
decreasing_by omega
def ofInt(n:Int):aa:=if n<0 then 45::fu n.natAbs else fu n.natAbs
def pr(a b:aa):aa:=ofInt (val a+val b)
theorem jf:fu 0=[]:=by rw[fu];simp
theorem q8{n:Nat}(h:n≠0):fu n=fu (n/10)++[UInt8.ofNat (48+n%10)]:=by rw[fu];simp[h]
theorem yB(k:Nat):∀n,n<10^k→(fu n).length≤k:=by
  induction k with
  |zero=>
      intro n h;obtain rfl:n=0:=by omega
      simp[jf]
  |succ k ih=>
    intro n h;by_cases e:n=0
    · subst e;simp[jf]
    · rw[q8 e]
      have:=ih (n/10) (by rw[Nat.pow_succ]at h;omega);simp;omega
theorem Rk{c:Int}(h:c≠0):fu c.natAbs=fu (c.tdiv 10).natAbs++[UInt8.ofNat (48+c.natAbs%10)]:=by
  rw[q8 zO,Int.natAbs_tdiv];rfl
theorem ak8(c:Int):(c.tmod 10).natAbs=c.natAbs%10:=by rw[Int.natAbs_tmod];rfl
theorem ajZ(c:Int):(c.tdiv 10).natAbs=c.natAbs/10:=by rw[Int.natAbs_tdiv];rfl
theorem Ud{s:aa}(h:(digits s).1.length≤17):-100000000000000000<val s∧val s<100000000000000000:=by
  have:=Je (mM s) h;unfold val;split<;>omega
theorem KU{n:Int}(h1:-2147483648≤n)(h2:n≤2147483647):IntKind.i32.wrap n=n:=IntWalk.i32_in n ⟨h1,h2⟩
theorem Bb(n:Nat):(fu n).all bN=true:=by
 induction n using Nat.strongRecOn with
 |_ n ih=>
  by_cases e:n=0
  ·subst e;simp[jf]
  ·rw[q8 e,List.all_append,ih (n/10) zO];have:(48+n%10)%256=48+n%10:=Nat.mod_eq_of_lt zO;simp[bN,this];omega
theorem Rm(n:Nat):natVal (fu n)=n:=by
 induction n using Nat.strongRecOn with
 |_ n ih=>
  by_cases e:n=0
  ·subst e;simp[jf,natVal]
  ·rw[q8 e,sv,ih (n/10) zO];have:(48+n%10)%256=48+n%10:=Nat.mod_eq_of_lt zO;simp[this];omega
theorem Bc{n:Nat}:fu n=[]↔n=0:=by
 constructor
 ·intro h;by_cases e:n=0
  ·exact e
  ·rw[q8 e]at h;simp at h
 ·rintro rfl;exact jf
theorem Jb(n:Nat):∀c r,fu n=c::r→c.toNat≠48:=by
 induction n using Nat.strongRecOn with
 |_ n ih=>
  intro c r h;by_cases e:n=0
  ·subst e;simp[jf]at h
  ·rw[q8 e]at h;by_cases e2:n/10=0
   ·rw[e2,jf]at h;simp only[List.nil_append,List.cons.injEq]at h;rw[←h.1];have:(48+n%10)%256=48+n%10:=Nat.mod_eq_of_lt zO;simp[this];omega
   ·cases hd:fu (n/10)with
    |nil=>exact absurd (Bc.1 hd) e2
    |cons c' r'=>
     rw[hd]at h;simp only[List.cons_append,List.cons.injEq]at h;rw[←h.1];exact ih (n/10) zO c' r' hd
theorem MG(n:Nat):en (fu n)=fu n:=by
 apply tA;intro⟨h1,h2⟩;cases hd:fu n with
 |nil=>simp[hd]at h1
 |cons c r=>rw[hd]at h2;exact Jb n c r hd (by simpa using h2)
theorem ajH{s:aa}(h:s.all bN=true):cL s=(s,false):=by
 apply s7;intro⟨h1,h2⟩;cases s with
 |nil=>simp at h1
 |cons c r=>
  simp only[List.all_cons,Bool.and_eq_true,bN,decide_eq_true_eq]at h;simp at h2;omega
theorem X8(n:Int):digits (ofInt n)=(fu n.natAbs,decide (n<0)):=by
 unfold ofInt;split
 ·rename_i h;have:cL (45::fu n.natAbs)=(fu n.natAbs,true):=rfl;unfold digits;rw[this];simp only[Bb,if_true,MG,h,decide_true,Bool.true_and];have:fu n.natAbs≠[]:=by rw[ne_eq,Bc];omega
  simp[this]
 ·rename_i h;unfold digits;rw[ajH (Bb _)];simp[Bb,MG,h]
theorem f_(n:Int):val (ofInt n)=n:=by
 unfold val;rw[X8];simp only[Rm,decide_eq_true_eq];split<;>omega
theorem RE{n:Int}:ofInt n=[]↔n=0:=by
 unfold ofInt;split
 ·simp;omega
 ·rw[Bc];omega
theorem Jo:ofInt 0=[]:=RE.2 rfl
theorem DJ{α β:Type}[Inhabited α]{l pre rest:List α}{n:Int}(f:α→β)(h:l=pre++rest)(h0:0<pre.length)(hn:n=(pre.length:Int)-1):(l.map f)[n.toNat]?=some (f (pre.getLastD default)):=by
 subst h;subst hn;have e:((pre.length:Int)-1).toNat=pre.length-1:=by omega
 rw[e,List.getElem?_map,List.getElem?_append_left zO];have:pre[pre.length-1]?=some (pre.getLastD default):=by
  rw[←List.getLast?_eq_getElem?];cases pre with
  |nil=>simp at h0
  |cons a l=>simp[List.getLast?_cons,List.getLastD_cons,List.getLastD_eq_getLast?]
 rw[this];rfl
def opposite(e:Entry):Entry:={e with lines:=e.lines.map fun l=>{l with FH:=mw l.FH}}
@[reducible] def aV(m:List Nat):List (List D):=m.map fun(n:Nat)=>[.raw (.int .u64 (n:Int))]
@[reducible] def aE(m:List Nat):D:=.snap 1 false (aV m)
@[reducible] def mb(cD:Bool)(m:List Nat):List D:=[.b cD,aE m]
theorem Pz{α β:Type}(f:α→β)(i:List α)(x:α){n:Int}(hn:n=((i++[x]).map f).length-1):((i++[x]).map f)[n.toNat]?=some (f x):=by
 have:n.toNat=i.length:=by rw[hn];simp
 rw[this];simp
theorem ur{env:Env}{x:Operand}{k:IntKind}{n m:Int}(h:env.op x=some (.raw (.int k n)))(e:n=m):env.op x=some (.raw (.int k m)):=by rw[h,e]
def gB:Nat:=1000000000
def an:List Nat→Nat
 |[]=>0
 |x::r=>x+gB*an r
def aU(m:List Nat):Prop:=∀x∈m,x<gB
def bh(m:List Nat):List Nat:=(m.reverse.dropWhile (· ==0)).reverse
theorem lV{α:Type}(l:List α):l=[]∨∃i x,l=i++[x]:=by
 rcases List.eq_nil_or_concat l with h|⟨i,x,h⟩
 ·exact .inl h
 ·exact .inr ⟨i,x,by rw[h,List.concat_eq_append]⟩
theorem rJ(i:List Nat):bh (i++[0])=bh i:=by simp[bh]
theorem xo(i:List Nat){x:Nat}(h:x≠0):bh (i++[x])=i++[x]:=by simp[bh,h]
theorem uh(a b:List Nat):an (a++b)=an a+gB^a.length*an b:=by
 induction a with
 |nil=>simp[an]
 |cons x a ih=>simp only[List.cons_append,an,ih,List.length_cons,Nat.pow_succ];rw[Nat.mul_add,Nat.mul_comm (gB^a.length) gB,Nat.mul_assoc];omega
theorem sl{m:List Nat}(h:aU m):an m<gB^m.length:=by
 induction m with
 |nil=>simp[an]
 |cons x m ih=>
  have h1:=ih (fun y hy=>h y (List.mem_cons_of_mem _ hy));have h2:=h x List.mem_cons_self;simp only[an,List.length_cons,Nat.pow_succ];have:gB*(an m+1)≤gB*gB^m.length:=Nat.mul_le_mul_left _ h1;rw[Nat.mul_comm (gB^m.length)];rw[Nat.mul_add]at this;omega
theorem CB(m:List Nat):an (bh m)=an m:=by
 induction m using pd with
 |h0=>rfl
 |h1 i x ih=>
  by_cases h:x=0
  ·subst h;rw[rJ,ih,uh];simp[an]
  ·rw[xo i h]
theorem Xw(m:List Nat):∀x∈bh m,x∈m:=by
 intro x hx;unfold bh at hx;rw[List.mem_reverse]at hx;have:=(List.dropWhile_sublist _).mem hx;simpa using this
theorem xn{m:List Nat}(h:aU m):aU (bh m):=fun x hx=>h x (Xw m x hx)
theorem tw(m:List Nat):(bh m).length≤m.length:=by
 unfold bh;rw[List.length_reverse];exact Nat.le_trans (List.dropWhile_sublist _).length_le zS
def e7(s:aa):List Nat:=if h:s.length=0 then[]else natVal (s.drop (s.length-9))::e7 (s.take (s.length-9))
termination_by s.length
decreasing_by simp;omega
theorem rV:e7 []=[]:=by rw[e7];simp
theorem xN{s:aa}(h:s.length≠0):e7 s=natVal (s.drop (s.length-9))::e7 (s.take (s.length-9)):=by rw[e7,dif_neg h]
theorem uq(a b:aa):natVal (a++b)=natVal a*10^b.length+natVal b:=by
 induction b using pd with
 |h0=>simp[natVal]
 |h1 i x ih=>
   rw[←List.append_assoc,sv,ih,sv,List.length_append,List.length_singleton,Nat.pow_succ,Nat.mul_add,←Nat.mul_assoc];have:10*natVal a*10^i.length=natVal a*(10^i.length*10):=by rw[Nat.mul_comm 10 (natVal a),Nat.mul_assoc,Nat.mul_comm 10]
   omega
theorem pA(s:aa):(e7 s).length≤s.length:=by
 induction h:s.length using Nat.strongRecOn generalizing s with
 |_ n ih=>
  by_cases h0:s.length=0
  ·have:s=[]:=List.length_eq_zero_iff.1 h0;subst this;rw[rV];simp
  ·rw[xN h0,List.length_cons];have:=ih (s.take (s.length-9)).length zQ (s.take (s.length-9)) rfl;simp at this⊢;omega
theorem He(s:aa)(hd:s.all bN=true):aU (e7 s)∧an (e7 s)=natVal s:=by
 induction h:s.length using Nat.strongRecOn generalizing s with
 |_ n ih=>
  by_cases h0:s.length=0
  ·have:s=[]:=List.length_eq_zero_iff.1 h0;subst this;rw[rV];exact⟨fun x hx=>absurd hx zS,rfl⟩
  ·rw[xN h0];have hs:s=s.take (s.length-9)++s.drop (s.length-9):=(List.take_append_drop ..).symm;have Ox:(s.take (s.length-9)).all bN=true∧(s.drop (s.length-9)).all bN=true:=by
    rw[hs,List.all_append,Bool.and_eq_true]at hd;exact hd
   obtain⟨h1,h2⟩:=ih (s.take (s.length-9)).length zQ (s.take (s.length-9)) Ox.1 rfl;have hl:(s.drop (s.length-9)).length≤9:=by simp;omega
   have h3:=o8 _ Ox.2;have h4:10^(s.drop (s.length-9)).length≤10^9:=Nat.pow_le_pow_right zO hl;have h5:natVal (s.drop (s.length-9))<gB:=by unfold gB;omega
   refine⟨fun x hx=>?_,?_⟩
   ·rcases List.mem_cons.1 hx with rfl|hx
    ·exact h5
    ·exact h1 x hx
   ·simp only[an,h2];conv=>rhs;rw[hs,uq]
    by_cases h9:s.length≤9
    ·have:s.length-9=0:=by omega
     rw[this];simp[natVal]
    ·have:(s.drop (s.length-9)).length=9:=by simp;omega
     rw[this,Nat.mul_comm (natVal (s.take (s.length-9)))];unfold gB;omega
end Go.T
