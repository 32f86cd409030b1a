/-
  Contracts of the functions that the statement reaches, and the logic in which they are proved (no condition): parts W2, Tab, W70, Spec2, Spec3, Spec4, Spec5, Spec6, Spec7, Spec8.
-/
import Derived.Test.YtapflgppmigcdaaGreatDoorA06
import Derived.Test.YtapflgppmigcdaaGreatDoorProg
import Derived.KernelRfl
set_option linter.all false
namespace Go.T
open Go Go.Proofs Go.Proofs.Tryz
set_option maxRecDepth 20000
theorem lh:Tryz.prog.follows .mixedOrders=true:=by kernel_rfl
theorem Fu(s:aa):Fc Tryz.prog 38 [.str s] (.b (decide (13<s.length))):=by
 refine Fc.mk' [2] func38 rfl ntmps38 rfl rfl rfl (fun t w=>results_tmp results38 t _ w) ?_;refine J.seq (J.af [.p] ?_);refine .ag rfl rfl<|.nil ?_;refine J.seq (J.af [.p,.p,.p,.p] ?_);refine .mv rfl rfl<|.P rfl (fV underlying33 rfl)<|.P rfl (gn rfl rfl)<|.ag rfl rfl<|.nil ?_;refine J.ret (?_);exact dn rfl (Sub.bool (by grind))
structure ahT(s:aa)where
 pre:List UInt8
 rest:List UInt8
 hx:s=pre++rest
 hp:pre.all rW=true
theorem w8(s:aa):Fc Tryz.prog 94 [.str s] (.b (isName s)):=by
 refine Fc.mk' [2] func94 rfl ntmps94 rfl rfl rfl (fun t w=>results_tmp results94 t _ w) ?_;refine J.l4 0 rfl (fun hb=>?_);simp only[aG]at hb;refine J.seq (J.af [.p] ?_);refine .ag rfl rfl<|.nil ?_;refine J.seq (J.seq (J.af [.p] ?_));refine .ag rfl rfl<|.nil ?_;refine J.block ?_;refine J.loop (ι:=ahT s) (fun sx=>[(0,.str s),(3,.i sx.pre.length)]) (fun sx=>[]) (fun sx=>sx.rest.length) ⟨[],s,rfl,rfl⟩ ?_ ?_
 ·exact Le.mk rfl (.s rfl rfl (.s rfl rfl .nil)) .nil
 ·rintro⟨pre,rest,hx,hp⟩;show J _ _ _ _ [(0,.str s),(3,.i pre.length)] [];have hl:=congrArg List.length hx;simp only[List.length_append]at hl;rcases rest with _|⟨x,rest⟩
  ·skip;refine J.seq (J.seq (J.af [.p,.p,.p,.p] ?_));refine .mv rfl rfl<|.mv rfl rfl<|.P rfl (fV underlying9 rfl)<|.P rfl (bQ rfl rfl)<|.nil ?_;refine J.eF rfl (by simp at hl⊢;omega) ?_;refine J.exit (dO (dG ?_));refine J.seq (J.af [.p,.p,.p,.p,.p,.p,.p,.p,.p] ?_);refine .mv rfl rfl<|.P rfl (fV underlying9 rfl)<|.P rfl (oQ rfl rfl)<|.mv rfl rfl<|.gT rfl (.inl rfl) rfl rfl rfl (fun hg=>pk (fun _=>aT rfl _))<|.gT rfl (.inl rfl) rfl rfl rfl (fun hg=>pk (fun _=>fV underlying9 (bh rfl hg) _))<|.gT rfl (.inl rfl) rfl rfl rfl (fun hg=>pk (fun _=>CE (bh rfl hg) rfl _))<|.P rfl (gO rfl rfl)<|.ag rfl rfl<|.nil ?_;refine J.ret (?_);exact dn rfl (Sub.bool (by grind[isName,rW]))
  ·simp only[List.length_cons]at hl;refine J.seq (J.seq (J.af [.p,.p,.p,.p] ?_));refine .mv rfl rfl<|.mv rfl rfl<|.P rfl (fV underlying9 rfl)<|.P rfl (bQ rfl rfl)<|.nil ?_;refine J.gu rfl zQ ?_;refine J.skip ?_;refine J.seq ?_;refine J.block ?_;refine J.seq (J.af [.p,.p,.p,.p] ?_);refine .mv rfl rfl<|.mv rfl rfl<|.P rfl (nr underlying9 rfl rfl zO (mu hx rfl))<|.ag rfl rfl<|.nil ?_;refine J.seq (J.af [.p,.p,.p,.p,.p,.p,.p,.p,.p,.p,.p,.p,.p,.p,.p,.p,.p,.p] ?_);refine .mv rfl rfl<|.P rfl (bQ rfl rfl)<|.mv rfl rfl<|.gF rfl (.inl rfl) rfl rfl rfl (fun hg=>pk (fun _=>aT rfl _))<|.gF rfl (.inl rfl) rfl rfl rfl (fun hg=>pk (fun _=>gn (bh rfl (nt hg)) rfl _))<|.P rfl (nw rfl rfl)<|.mv rfl rfl<|.gT rfl (.inl rfl) rfl rfl rfl (fun hg=>pk (fun _=>aT rfl _))<|.gT rfl (.inl rfl) rfl rfl rfl (fun hg=>pk (fun _=>bQ (bh rfl hg) rfl _))<|.gT rfl (.inl rfl) rfl rfl rfl (fun hg=>pk (fun _=>aT (bh rfl hg) _)) ?_;refine .nF rfl (.inl rfl) rfl rfl rfl (fun hc hg=>pk (fun _=>aT rfl _)) ?_;refine .nF rfl (.inl rfl) rfl rfl rfl (fun hc hg=>pk (fun _=>gn (bh rfl (bF hc hg)) rfl _)) ?_;refine .gT rfl (.inl rfl) rfl rfl rfl (fun hg=>pk (fun _=>nw (bh rfl hg) (LC rfl hg) _))<|.P rfl (gO rfl rfl)<|.mv rfl rfl<|.gT rfl (.inl rfl) rfl rfl rfl (fun hg=>pk (fun _=>aT rfl _))<|.gT rfl (.inl rfl) rfl rfl rfl (fun hg=>pk (fun _=>z6 (bh rfl hg) rfl _))<|.P rfl (gO rfl rfl)<|.nil ?_;refine J.cond rfl (fun h1=>?_) (fun h1=>?_)
   ·refine J.seq (J.af [.p] ?_);refine .ag rfl rfl<|.nil ?_;refine J.ret (jU (sc (jU (?_))));exact dn rfl (Sub.bool (by grind[isName,rW]))
   ·refine J.skip ?_;refine J.nil (cn ?_);refine J.af [.p,.p,.p] ?_;refine .mv rfl rfl<|.P rfl (bU rfl rfl (aw zO))<|.ag rfl rfl<|.nil ?_;refine J.nil (cZ ?_);exact⟨⟨pre++[x],rest,by simp[hx],by grind[rW]⟩,by simp,Le.mk rfl (.s rfl rfl (.cons rfl (Sub.int zS) rfl .nil)) .nil⟩
structure ZC(s:aa)where
 pre:List UInt8
 rest:List UInt8
 hx:s=pre++rest
 hp:pre.all (fun c=>65≤c.toNat&&c.toNat≤90)=true
theorem ZB(s:aa):Fc Tryz.prog 189 [.str s] (.b (fF s)):=by
 refine Fc.mk' [2] func189 rfl ntmps189 rfl rfl rfl (fun t w=>results_tmp results189 t _ w) ?_;refine J.l4 0 rfl (fun hb=>?_);simp only[aG]at hb;refine J.seq (J.af [.p] ?_);refine .ag rfl rfl<|.nil ?_;refine J.seq (J.seq (J.af [.p] ?_));refine .ag rfl rfl<|.nil ?_;refine J.block ?_;refine J.loop (ι:=ZC s) (fun sx=>[(0,.str s),(3,.i sx.pre.length)]) (fun sx=>[]) (fun sx=>sx.rest.length) ⟨[],s,rfl,rfl⟩ ?_ ?_
 ·exact Le.mk rfl (.s rfl rfl (.s rfl rfl .nil)) .nil
 ·rintro⟨pre,rest,hx,hp⟩;show J _ _ _ _ [(0,.str s),(3,.i pre.length)] [];have hl:=congrArg List.length hx;simp only[List.length_append]at hl;rcases rest with _|⟨x,rest⟩
  ·skip;refine J.seq (J.seq (J.af [.p,.p,.p,.p] ?_));refine .mv rfl rfl<|.mv rfl rfl<|.P rfl (fV underlying9 rfl)<|.P rfl (bQ rfl rfl)<|.nil ?_;refine J.eF rfl (by simp at hl⊢;omega) ?_;refine J.exit (dO (dG ?_));refine J.seq (J.af [.p,.p,.p,.p] ?_);refine .mv rfl rfl<|.P rfl (fV underlying9 rfl)<|.P rfl (jQ rfl rfl)<|.ag rfl rfl<|.nil ?_;refine J.ret (?_);exact dn rfl (Sub.bool (by grind[fF]))
  ·simp only[List.length_cons]at hl;refine J.seq (J.seq (J.af [.p,.p,.p,.p] ?_));refine .mv rfl rfl<|.mv rfl rfl<|.P rfl (fV underlying9 rfl)<|.P rfl (bQ rfl rfl)<|.nil ?_;refine J.gu rfl zQ ?_;refine J.skip ?_;refine J.seq ?_;refine J.block ?_;refine J.seq (J.af [.p,.p,.p,.p,.p,.p,.p,.p,.p,.p] ?_);refine .mv rfl rfl<|.mv rfl rfl<|.P rfl (nr underlying9 rfl rfl zO (mu hx rfl))<|.P rfl (bQ rfl rfl)<|.mv rfl rfl<|.gF rfl (.inl rfl) rfl rfl rfl (fun hg=>pk (fun _=>aT rfl _))<|.gF rfl (.inl rfl) rfl rfl rfl (fun hg=>pk (fun _=>aT rfl _))<|.gF rfl (.inl rfl) rfl rfl rfl (fun hg=>pk (fun _=>nr underlying9 (bh rfl (nt hg)) (bh rfl (nt hg)) zO (mu hx rfl) _))<|.gF rfl (.inl rfl) rfl rfl rfl (fun hg=>pk (fun _=>gn (bh rfl (nt hg)) rfl _))<|.P rfl (nw rfl rfl)<|.nil ?_;refine J.cond rfl (fun h1=>?_) (fun h1=>?_)
   ·refine J.seq (J.af [.p] ?_);refine .ag rfl rfl<|.nil ?_;refine J.ret (jU (sc (jU (?_))));exact dn rfl (Sub.bool (by grind[fF]))
   ·refine J.skip ?_;refine J.nil (cn ?_);refine J.af [.p,.p,.p] ?_;refine .mv rfl rfl<|.P rfl (bU rfl rfl (aw zO))<|.ag rfl rfl<|.nil ?_;refine J.nil (cZ ?_);exact⟨⟨pre++[x],rest,by simp[hx],by grind⟩,by simp,Le.mk rfl (.s rfl rfl (.cons rfl (Sub.int zS) rfl .nil)) .nil⟩
end Go.T
namespace Go.T
open Go Go.Proofs
set_option maxRecDepth 20000
def tk2:{i:bx//bV (Tryz.prog) 2 i}:=⟨_,dx [.raw (.int .i64 0)] Tryz.underlying2 Tryz.isAgg2 Tryz.sizeOf2 Tryz.zeroValue2 rfl⟩
def tk3:{i:bx//bV (Tryz.prog) 3 i}:=⟨_,dx [.raw (.int .i64 0)] Tryz.underlying3 Tryz.isAgg3 Tryz.sizeOf3 Tryz.zeroValue3 rfl⟩
def tk4:{i:bx//bV (Tryz.prog) 4 i}:=⟨_,dx [.raw (.bool false)] Tryz.underlying4 Tryz.isAgg4 Tryz.sizeOf4 Tryz.zeroValue4 rfl⟩
def tk5:{i:bx//bV (Tryz.prog) 5 i}:=⟨_,dx [.raw (.int .u8 0)] Tryz.underlying5 Tryz.isAgg5 Tryz.sizeOf5 Tryz.zeroValue5 rfl⟩
def tk9:{i:bx//bV (Tryz.prog) 9 i}:=⟨_,dx [.str []] Tryz.underlying9 Tryz.isAgg9 Tryz.sizeOf9 Tryz.zeroValue9 rfl⟩
def amx:{i:bx//bV (Tryz.prog) 21 i}:=⟨_,dx [.raw (.int .i32 0)] Tryz.underlying21 Tryz.isAgg21 Tryz.sizeOf21 Tryz.zeroValue21 rfl⟩
def amy:{i:bx//bV (Tryz.prog) 22 i}:=⟨_,dx [.raw (.slice none 0 0)] Tryz.underlying22 Tryz.isAgg22 Tryz.sizeOf22 Tryz.zeroValue22 rfl⟩
def amA:{i:bx//bV (Tryz.prog) 23 i}:=⟨_,dx [.raw (.slice none 0 0)] Tryz.underlying23 Tryz.isAgg23 Tryz.sizeOf23 Tryz.zeroValue23 rfl⟩
def amB:{i:bx//bV (Tryz.prog) 24 i}:=⟨_,dx [.raw (.slice none 0 0)] Tryz.underlying24 Tryz.isAgg24 Tryz.sizeOf24 Tryz.zeroValue24 rfl⟩
def amE:{i:bx//bV (Tryz.prog) 25 i}:=⟨_,dx [.raw (.slice none 0 0)] Tryz.underlying25 Tryz.isAgg25 Tryz.sizeOf25 Tryz.zeroValue25 rfl⟩
def amF:{i:bx//bV (Tryz.prog) 26 i}:=⟨_,dx [.raw (.slice none 0 0)] Tryz.underlying26 Tryz.isAgg26 Tryz.sizeOf26 Tryz.zeroValue26 rfl⟩
def amL:{i:bx//bV (Tryz.prog) 28 i}:=⟨_,o8 [(0,1),(1,1)] [.raw (.slice none 0 0),.raw (.slice none 0 0)] Tryz.underlying28 Tryz.isAgg28 Tryz.sizeOf28 Tryz.zeroValue28 rfl (fun w=>by kernel_rfl)⟩
def amM:{i:bx//bV (Tryz.prog) 30 i}:=⟨_,o8 [(0,1),(1,1),(2,1),(3,2),(5,1),(6,1)] [.raw (.slice none 0 0),.raw (.slice none 0 0),.raw (.slice none 0 0),.raw (.slice none 0 0),.raw (.slice none 0 0),.raw (.slice none 0 0),.raw (.int .i64 0)] Tryz.underlying30 Tryz.isAgg30 Tryz.sizeOf30 Tryz.zeroValue30 rfl (fun w=>by kernel_rfl)⟩
def amN:{i:bx//bV (Tryz.prog) 31 i}:=⟨_,dx [.raw (.slice none 0 0)] Tryz.underlying31 Tryz.isAgg31 Tryz.sizeOf31 Tryz.zeroValue31 rfl⟩
def amO:{i:bx//bV (Tryz.prog) 32 i}:=⟨_,dx [.raw (.int .i64 0)] Tryz.underlying32 Tryz.isAgg32 Tryz.sizeOf32 Tryz.zeroValue32 rfl⟩
def amP:{i:bx//bV (Tryz.prog) 33 i}:=⟨_,dx [.str []] Tryz.underlying33 Tryz.isAgg33 Tryz.sizeOf33 Tryz.zeroValue33 rfl⟩
def amQ:{i:bx//bV (Tryz.prog) 35 i}:=⟨_,o8 [(0,1),(1,1)] [.str [],.str []] Tryz.underlying35 Tryz.isAgg35 Tryz.sizeOf35 Tryz.zeroValue35 rfl (fun w=>by kernel_rfl)⟩
def amR:{i:bx//bV (Tryz.prog) 36 i}:=⟨_,dx [.raw (.slice none 0 0)] Tryz.underlying36 Tryz.isAgg36 Tryz.sizeOf36 Tryz.zeroValue36 rfl⟩
def amS:{i:bx//bV (Tryz.prog) 37 i}:=⟨_,dx [.raw (.slice none 0 0)] Tryz.underlying37 Tryz.isAgg37 Tryz.sizeOf37 Tryz.zeroValue37 rfl⟩
def amT:{i:bx//bV (Tryz.prog) 39 i}:=⟨_,o8 [(0,1),(1,1),(2,1),(3,1),(4,1),(5,1),(6,1),(7,1),(8,1),(9,1),(10,1),(11,1),(12,2),(14,2),(16,2),(18,1),(19,1),(20,1)] [.str [],.raw (.int .i64 0),.raw (.bool false),.raw (.int .i64 0),.raw (.int .i64 0),.str [],.str [],.str [],.str [],.str [],.str [],.str [],.str [],.str [],.str [],.str [],.str [],.str [],.raw (.slice none 0 0),.raw (.slice none 0 0),.raw (.int .i64 0)] Tryz.underlying39 Tryz.isAgg39 Tryz.sizeOf39 Tryz.zeroValue39 rfl (fun w=>by kernel_rfl)⟩
def amU:{i:bx//bV (Tryz.prog) 41 i}:=⟨_,dx [.raw .nilFunc] Tryz.underlying41 Tryz.isAgg41 Tryz.sizeOf41 Tryz.zeroValue41 rfl⟩
def amV:{i:bx//bV (Tryz.prog) 43 i}:=⟨_,dx [.raw (.slice none 0 0)] Tryz.underlying43 Tryz.isAgg43 Tryz.sizeOf43 Tryz.zeroValue43 rfl⟩
def amW:{i:bx//bV (Tryz.prog) 44 i}:=⟨_,dx [.raw (.int .i64 0)] Tryz.underlying44 Tryz.isAgg44 Tryz.sizeOf44 Tryz.zeroValue44 rfl⟩
def amX:{i:bx//bV (Tryz.prog) 48 i}:=⟨_,dx [.raw (.slice none 0 0)] Tryz.underlying48 Tryz.isAgg48 Tryz.sizeOf48 Tryz.zeroValue48 rfl⟩
def amY:{i:bx//bV (Tryz.prog) 51 i}:=⟨_,dx [.raw .nilFunc] Tryz.underlying51 Tryz.isAgg51 Tryz.sizeOf51 Tryz.zeroValue51 rfl⟩
def amZ:{i:bx//bV (Tryz.prog) 52 i}:=⟨_,dx [.raw .nilFunc] Tryz.underlying52 Tryz.isAgg52 Tryz.sizeOf52 Tryz.zeroValue52 rfl⟩
def am0:{i:bx//bV (Tryz.prog) 56 i}:=⟨_,dx [.raw .nilFunc] Tryz.underlying56 Tryz.isAgg56 Tryz.sizeOf56 Tryz.zeroValue56 rfl⟩
def am1:{i:bx//bV (Tryz.prog) 65 i}:=⟨_,o8 [(0,1),(1,1),(2,1),(3,1),(4,1),(5,1),(6,2),(8,2),(10,1),(11,1),(12,1),(13,2)] [.str [],.raw (.int .i64 0),.str [],.raw (.int .i64 0),.raw (.int .i64 0),.raw (.int .i64 0),.str [],.str [],.str [],.str [],.raw (.int .i64 0),.raw (.int .i64 0),.str [],.str [],.str []] Tryz.underlying65 Tryz.isAgg65 Tryz.sizeOf65 Tryz.zeroValue65 rfl (fun w=>by kernel_rfl)⟩
def am2:{i:bx//bV (Tryz.prog) 78 i}:=⟨_,dx [.raw (.slice none 0 0)] Tryz.underlying78 Tryz.isAgg78 Tryz.sizeOf78 Tryz.zeroValue78 rfl⟩
def am3:{i:bx//bV (Tryz.prog) 81 i}:=⟨_,dx [.raw .nilFunc] Tryz.underlying81 Tryz.isAgg81 Tryz.sizeOf81 Tryz.zeroValue81 rfl⟩
def am4:{i:bx//bV (Tryz.prog) 85 i}:=⟨_,o8 [(0,1),(1,1)] [.str [],.str []] Tryz.underlying85 Tryz.isAgg85 Tryz.sizeOf85 Tryz.zeroValue85 rfl (fun w=>by kernel_rfl)⟩
def am5:{i:bx//bV (Tryz.prog) 87 i}:=⟨_,o8 [(0,1),(1,2),(3,2),(5,2)] [.str [],.str [],.str [],.str [],.str [],.str [],.str []] Tryz.underlying87 Tryz.isAgg87 Tryz.sizeOf87 Tryz.zeroValue87 rfl (fun w=>by kernel_rfl)⟩
def am6:{i:bx//bV (Tryz.prog) 89 i}:=⟨_,o8 [(0,1),(1,1)] [.str [],.raw (.int .i64 0)] Tryz.underlying89 Tryz.isAgg89 Tryz.sizeOf89 Tryz.zeroValue89 rfl (fun w=>by kernel_rfl)⟩
def amd:{i:bx//bV (Tryz.prog) 110 i}:=⟨_,o8 [(0,1),(1,1)] [.str [],.raw (.int .i64 0)] Tryz.underlying110 Tryz.isAgg110 Tryz.sizeOf110 Tryz.zeroValue110 rfl (fun w=>by kernel_rfl)⟩
def ame:{i:bx//bV (Tryz.prog) 116 i}:=⟨_,dx [.raw (.slice none 0 0)] Tryz.underlying116 Tryz.isAgg116 Tryz.sizeOf116 Tryz.zeroValue116 rfl⟩
def amf:{i:bx//bV (Tryz.prog) 118 i}:=⟨_,dx [.raw (.bool false),.raw (.bool false),.raw (.bool false),.raw (.bool false),.raw (.bool false),.raw (.bool false),.raw (.bool false),.raw (.bool false),.raw (.bool false),.raw (.bool false),.raw (.bool false),.raw (.bool false),.raw (.bool false)] Tryz.underlying118 Tryz.isAgg118 Tryz.sizeOf118 Tryz.zeroValue118 rfl⟩
def amg:{i:bx//bV (Tryz.prog) 119 i}:=⟨_,dx [.raw (.map none)] Tryz.underlying119 Tryz.isAgg119 Tryz.sizeOf119 Tryz.zeroValue119 rfl⟩
def amh:{i:bx//bV (Tryz.prog) 121 i}:=⟨_,o8 [(0,1),(1,1),(2,13),(15,1),(16,1)] [.str [],.raw (.int .i64 0),.raw (.bool false),.raw (.bool false),.raw (.bool false),.raw (.bool false),.raw (.bool false),.raw (.bool false),.raw (.bool false),.raw (.bool false),.raw (.bool false),.raw (.bool false),.raw (.bool false),.raw (.bool false),.raw (.bool false),.raw (.map none),.raw (.bool false)] Tryz.underlying121 Tryz.isAgg121 Tryz.sizeOf121 Tryz.zeroValue121 rfl (fun w=>by kernel_rfl)⟩
def ami:{i:bx//bV (Tryz.prog) 128 i}:=⟨_,dx [.raw (.map none)] Tryz.underlying128 Tryz.isAgg128 Tryz.sizeOf128 Tryz.zeroValue128 rfl⟩
def amj:{i:bx//bV (Tryz.prog) 137 i}:=⟨_,dx [.raw (.map none)] Tryz.underlying137 Tryz.isAgg137 Tryz.sizeOf137 Tryz.zeroValue137 rfl⟩
def amk:{i:bx//bV (Tryz.prog) 150 i}:=⟨_,dx [.raw .nilFunc] Tryz.underlying150 Tryz.isAgg150 Tryz.sizeOf150 Tryz.zeroValue150 rfl⟩
def aml:{i:bx//bV (Tryz.prog) 152 i}:=⟨_,dx [.raw (.slice none 0 0)] Tryz.underlying152 Tryz.isAgg152 Tryz.sizeOf152 Tryz.zeroValue152 rfl⟩
def amm:{i:bx//bV (Tryz.prog) 153 i}:=⟨_,dx [.raw .nilFunc] Tryz.underlying153 Tryz.isAgg153 Tryz.sizeOf153 Tryz.zeroValue153 rfl⟩
def amn:{i:bx//bV (Tryz.prog) 154 i}:=⟨_,dx [.raw .nilFunc] Tryz.underlying154 Tryz.isAgg154 Tryz.sizeOf154 Tryz.zeroValue154 rfl⟩
def amo:{i:bx//bV (Tryz.prog) 159 i}:=⟨_,dx [.raw .nilFunc] Tryz.underlying159 Tryz.isAgg159 Tryz.sizeOf159 Tryz.zeroValue159 rfl⟩
def amp:{i:bx//bV (Tryz.prog) 184 i}:=⟨_,dx [.raw (.int .u64 0)] Tryz.underlying184 Tryz.isAgg184 Tryz.sizeOf184 Tryz.zeroValue184 rfl⟩
def amq:{i:bx//bV (Tryz.prog) 192 i}:=⟨_,dx [.raw .nilFunc] Tryz.underlying192 Tryz.isAgg192 Tryz.sizeOf192 Tryz.zeroValue192 rfl⟩
def amr:{i:bx//bV (Tryz.prog) 198 i}:=⟨_,o8 [(0,1),(1,1)] [.raw (.bool false),.raw .nilFunc] Tryz.underlying198 Tryz.isAgg198 Tryz.sizeOf198 Tryz.zeroValue198 rfl (fun w=>by kernel_rfl)⟩
def ams:{i:bx//bV (Tryz.prog) 199 i}:=⟨_,dx [.raw (.bool false),.raw .nilFunc,.raw (.bool false),.raw .nilFunc,.raw (.bool false),.raw .nilFunc,.raw (.bool false),.raw .nilFunc,.raw (.bool false),.raw .nilFunc,.raw (.bool false),.raw .nilFunc] Tryz.underlying199 Tryz.isAgg199 Tryz.sizeOf199 Tryz.zeroValue199 rfl⟩
def amu:{i:bx//bV (Tryz.prog) 205 i}:=⟨_,dx [.raw .nilFunc] Tryz.underlying205 Tryz.isAgg205 Tryz.sizeOf205 Tryz.zeroValue205 rfl⟩
def amv:{i:bx//bV (Tryz.prog) 206 i}:=⟨_,dx [.raw .nilFunc] Tryz.underlying206 Tryz.isAgg206 Tryz.sizeOf206 Tryz.zeroValue206 rfl⟩
def amw:{i:bx//bV (Tryz.prog) 208 i}:=⟨_,dx [.str [],.str [],.str [],.str [],.str [],.str [],.str [],.str [],.str [],.str [],.str [],.str [],.str [],.str [],.str [],.str [],.str [],.str [],.str [],.str [],.str [],.str [],.str [],.str [],.str [],.str []] Tryz.underlying208 Tryz.isAgg208 Tryz.sizeOf208 Tryz.zeroValue208 rfl⟩
def amz:{i:bx//bV (Tryz.prog) 226 i}:=⟨_,dx [.raw .nilFunc] Tryz.underlying226 Tryz.isAgg226 Tryz.sizeOf226 Tryz.zeroValue226 rfl⟩
def amC:{i:bx//bV (Tryz.prog) 244 i}:=⟨_,dx [.raw (.slice none 0 0)] Tryz.underlying244 Tryz.isAgg244 Tryz.sizeOf244 Tryz.zeroValue244 rfl⟩
def amD:{i:bx//bV (Tryz.prog) 246 i}:=⟨_,o8 [(0,1),(1,1)] [.raw (.bool false),.raw (.slice none 0 0)] Tryz.underlying246 Tryz.isAgg246 Tryz.sizeOf246 Tryz.zeroValue246 rfl (fun w=>by kernel_rfl)⟩
def amG:{i:bx//bV (Tryz.prog) 260 i}:=⟨_,o8 [(0,1),(1,1)] [.raw (.bool false),.raw (.slice none 0 0)] Tryz.underlying260 Tryz.isAgg260 Tryz.sizeOf260 Tryz.zeroValue260 rfl (fun w=>by kernel_rfl)⟩
def amH:{i:bx//bV (Tryz.prog) 274 i}:=⟨_,dx [.raw (.int .i64 0),.raw (.int .i64 0),.raw (.int .i64 0),.raw (.int .i64 0),.raw (.int .i64 0),.raw (.int .i64 0)] Tryz.underlying274 Tryz.isAgg274 Tryz.sizeOf274 Tryz.zeroValue274 rfl⟩
def amI:{i:bx//bV (Tryz.prog) 277 i}:=⟨_,dx [.raw .nilFunc] Tryz.underlying277 Tryz.isAgg277 Tryz.sizeOf277 Tryz.zeroValue277 rfl⟩
def amJ:{i:bx//bV (Tryz.prog) 278 i}:=⟨_,dx [.raw .nilFunc] Tryz.underlying278 Tryz.isAgg278 Tryz.sizeOf278 Tryz.zeroValue278 rfl⟩
def amK:{i:bx//bV (Tryz.prog) 279 i}:=⟨_,dx [.raw .nilFunc,.raw .nilFunc,.raw .nilFunc,.raw .nilFunc] Tryz.underlying279 Tryz.isAgg279 Tryz.sizeOf279 Tryz.zeroValue279 rfl⟩
def Tz:vG Tryz.prog:=.node 85 am4 (.node 33 amP (.node 23 amA (.node 5 tk5 (.node 3 tk3 (.node 2 tk2 .leaf .leaf) (.node 4 tk4 .leaf .leaf)) (.node 21 amx (.node 9 tk9 .leaf .leaf) (.node 22 amy .leaf .leaf))) (.node 28 amL (.node 25 amE (.node 24 amB .leaf .leaf) (.node 26 amF .leaf .leaf)) (.node 31 amN (.node 30 amM .leaf .leaf) (.node 32 amO .leaf .leaf)))) (.node 48 amX (.node 39 amT (.node 36 amR (.node 35 amQ .leaf .leaf) (.node 37 amS .leaf .leaf)) (.node 43 amV (.node 41 amU .leaf .leaf) (.node 44 amW .leaf .leaf))) (.node 65 am1 (.node 52 amZ (.node 51 amY .leaf .leaf) (.node 56 am0 .leaf .leaf)) (.node 81 am3 (.node 78 am2 .leaf .leaf) .leaf)))) (.node 184 amp (.node 128 ami (.node 116 ame (.node 89 am6 (.node 87 am5 .leaf .leaf) (.node 110 amd .leaf .leaf)) (.node 119 amg (.node 118 amf .leaf .leaf) (.node 121 amh .leaf .leaf))) (.node 153 amm (.node 150 amk (.node 137 amj .leaf .leaf) (.node 152 aml .leaf .leaf)) (.node 159 amo (.node 154 amn .leaf .leaf) .leaf))) (.node 244 amC (.node 205 amu (.node 198 amr (.node 192 amq .leaf .leaf) (.node 199 ams .leaf .leaf)) (.node 208 amw (.node 206 amv .leaf .leaf) (.node 226 amz .leaf .leaf))) (.node 277 amI (.node 260 amG (.node 246 amD .leaf .leaf) (.node 274 amH .leaf .leaf)) (.node 279 amK (.node 278 amJ .leaf .leaf) .leaf))))
theorem anv[bX]:mL Tryz.prog Tz.get:=⟨Tz.ok,lh⟩
theorem go[bX]{F:Fr}{cs:List Code}{Q:Exit→Env→ae→Prop}{env:Env}{U:ae}(stop:List Nat)(h:hG Tz.get Tryz.prog F stop Q 3000 (.code cs [] env U)):J Tryz.prog F cs Q env U:=adg anv 3000 cs Q env U h
open Go.Proofs.Tryz
structure adr(l:List aM)where
 pre:List aM
 rest:List aM
 hx:l=pre++rest
 hp:pre.any yw=false
theorem adq(l:List aM):Fc Tryz.prog 116 [Ag l] (.b (l.any yw)):=by
 refine Fc.mk' [2] func116 rfl ntmps116 rfl rfl rfl (fun t w=>results_tmp results116 t _ w) ?_;refine J.eu 0 rfl (fun hb=>?_);simp only[List.length_map,aG]at hb;refine go [] ?_;refine J.loop (ι:=adr l) (fun sx=>[(0,Ag l),(2,.b false),(3,.i sx.pre.length)]) (fun sx=>[]) (fun sx=>sx.rest.length) ⟨[],_,rfl,rfl⟩ ?_ ?_
 ·exact Le.mk rfl (.s rfl rfl (.s rfl rfl (.s rfl rfl .nil))) .nil
 ·rintro⟨pre,rest,hx,hp⟩;show J _ _ _ _ [(0,Ag l),(2,.b false),(3,.i pre.length)] [];have hl:=congrArg List.length hx;simp only[List.length_append]at hl;rcases rest with _|⟨x,rest⟩
  ·skip;refine go [] ?_;refine a_ (by simp at hl⊢;omega) ?_;refine go [] ?_;exact ah rfl (Sub.bool (by exact(mO hx hp).symm))
  ·simp only[List.length_cons]at hl;refine go [] ?_;refine bk zQ ?_;refine ix zO (aS cj hx rfl) ?_;refine my (fun hg=>And.intro zO (aS cj hx rfl)) ?_;refine br (fun h1=>?_) (fun h1=>?_)
   ·exact ah rfl (Sub.bool (by exact(nD hx h1).symm))
   ·refine sd (aw zO) ?_;exact nx ⟨pre++[x],rest,by simp[hx],iZ hp h1⟩ zS (Le.mk rfl (.s rfl rfl (.s rfl rfl (.cons rfl (Sub.int zS) rfl .nil))) .nil)
structure agV(l:List aM)where
 pre:List aM
 rest:List aM
 hx:l=pre++rest
 hp:pre.any oE=false
theorem agU(l:List aM):Fc Tryz.prog 84 [Ag l] (.b (l.any oE)):=by
 refine Fc.mk' [2] func84 rfl ntmps84 rfl rfl rfl (fun t w=>results_tmp results84 t _ w) ?_;refine J.eu 0 rfl (fun hb=>?_);simp only[List.length_map,aG]at hb;refine go [] ?_;refine J.loop (ι:=agV l) (fun sx=>[(0,Ag l),(2,.b false),(3,.i sx.pre.length)]) (fun sx=>[]) (fun sx=>sx.rest.length) ⟨[],_,rfl,rfl⟩ ?_ ?_
 ·exact Le.mk rfl (.s rfl rfl (.s rfl rfl (.s rfl rfl .nil))) .nil
 ·rintro⟨pre,rest,hx,hp⟩;show J _ _ _ _ [(0,Ag l),(2,.b false),(3,.i pre.length)] [];have hl:=congrArg List.length hx;simp only[List.length_append]at hl;rcases rest with _|⟨x,rest⟩
  ·skip;refine go [] ?_;refine a_ (by simp at hl⊢;omega) ?_;refine go [] ?_;exact ah rfl (Sub.bool (by exact(mO hx hp).symm))
  ·simp only[List.length_cons]at hl;refine go [] ?_;refine bk zQ ?_;refine ix zO (aS cj hx rfl) ?_;refine my (fun hg=>And.intro zO (aS cj hx rfl)) ?_;refine br (fun h1=>?_) (fun h1=>?_)
   ·exact ah rfl (Sub.bool (by exact(nD hx h1).symm))
   ·refine sd (aw zO) ?_;exact nx ⟨pre++[x],rest,by simp[hx],iZ hp h1⟩ zS (Le.mk rfl (.s rfl rfl (.s rfl rfl (.cons rfl (Sub.int zS) rfl .nil))) .nil)
structure adt(l:List aW)where
 pre:List aW
 rest:List aW
 hx:l=pre++rest
 hp:pre.any A3=false
theorem ads(l:List aW):Fc Tryz.prog 79 [iW l] (.b (A4 l)):=by
 refine Fc.mk' [2] func79 rfl ntmps79 rfl rfl rfl (fun t w=>results_tmp results79 t _ w) ?_;refine J.eu 0 rfl (fun hb=>?_);simp only[List.length_map,aG]at hb;refine go [] ?_;refine J.loop (ι:=adt l) (fun sx=>[(0,iW l),(2,.b false),(3,.i sx.pre.length)]) (fun sx=>[]) (fun sx=>sx.rest.length) ⟨[],_,rfl,rfl⟩ ?_ ?_
 ·exact Le.mk rfl (.s rfl rfl (.s rfl rfl (.s rfl rfl .nil))) .nil
 ·rintro⟨pre,rest,hx,hp⟩;show J _ _ _ _ [(0,iW l),(2,.b false),(3,.i pre.length)] [];have hl:=congrArg List.length hx;simp only[List.length_append]at hl;rcases rest with _|⟨x,rest⟩
  ·skip;refine go [] ?_;refine a_ (by simp at hl⊢;omega) ?_;refine go [] ?_;exact ah rfl (Sub.bool (by exact lI (mO hx hp) zS))
  ·simp only[List.length_cons]at hl;refine go [] ?_;refine bk zQ ?_;refine ix zO (aS gA hx rfl) ?_;refine gP (fun hg=>bK (n:=3) (rows:=[cj x.fk,cj x.fh,cj x.e_]) underlying116 sizeOf35 rfl rfl rfl zeroValue35 rfl rfl rfl rfl rfl rfl rfl) ?_;refine gP (fun hg=>ai call116 rfl (adq [x.fk,x.fh,x.e_]).sub) ?_;refine br (fun h1=>?_) (fun h1=>?_)
   ·exact ah rfl (Sub.bool (by exact tB (nD hx h1)))
   ·refine sd (aw zO) ?_;exact nx ⟨pre++[x],rest,by simp[hx],iZ hp h1⟩ zS (Le.mk rfl (.s rfl rfl (.s rfl rfl (.cons rfl (Sub.int zS) rfl .nil))) .nil)
structure adz(l:List bA)where
 pre:List bA
 rest:List bA
 hx:l=pre++rest
 hp:pre.any (fun c=>gt 8 c.code)=false
 yB:pre.length≤24
theorem ady(l:List bA):Fc Tryz.prog 80 [fM l] (.b (Qf l)):=by
 refine Fc.mk' [2] func80 rfl ntmps80 rfl rfl rfl (fun t w=>results_tmp results80 t _ w) ?_;refine J.eu 0 rfl (fun hb=>?_);simp only[List.length_map,aG]at hb;refine go [] ?_;refine J.loop (ι:=adz l) (fun sx=>[(0,fM l),(2,.b false),(3,.i sx.pre.length)]) (fun sx=>[]) (fun sx=>sx.rest.length) ⟨[],_,rfl,rfl,by simp⟩ ?_ ?_
 ·exact Le.mk rfl (.s rfl rfl (.s rfl rfl (.s rfl rfl .nil))) .nil
 ·rintro⟨pre,rest,hx,hp,yB⟩;show J _ _ _ _ [(0,fM l),(2,.b false),(3,.i pre.length)] [];have hl:=congrArg List.length hx;simp only[List.length_append]at hl;rcases rest with _|⟨x,rest⟩
  ·skip;refine go [] ?_;refine a_ (by simp at hl⊢;omega) ?_;refine go [] ?_;exact ah rfl (Sub.bool (by exact lI (No hx hp yB (by left;rfl)) zS))
  ·simp only[List.length_cons]at hl;refine go [] ?_;refine br (fun h1=>?_) (fun h1=>?_)
   ·refine ix zO (aS l_ hx rfl) ?_;refine br (fun h2=>?_) (fun h2=>?_)
    ·exact ah rfl (Sub.bool (by exact tB (Ya hx h2 (by simp only[bs]at h1;omega))))
    ·refine sd (aw zO) ?_;exact nx ⟨pre++[x],rest,by simp[hx],iZ hp h2,by simp at h1⊢;omega⟩ zS (Le.mk rfl (.s rfl rfl (.s rfl rfl (.cons rfl (Sub.int zS) rfl .nil))) .nil)
   ·refine go [] ?_;exact ah rfl (Sub.bool (by exact lI (No hx hp yB (by right;simp at h1;omega)) zS))
theorem adl(w h:List Int):Fc Tryz.prog 81 [.agg [ir w,ir h]] (.b (I7 w h)):=by
 refine Fc.mk' [2] func81 rfl ntmps81 rfl rfl rfl (fun t w=>results_tmp results81 t _ w) ?_;refine go [] ?_;exact ah rfl (Sub.bool (by simp[I7]))
structure adx(s:Setup)where
 pre:List vF
 rest:List vF
 hx:s.xQ=pre++rest
 hp:pre.any (fun a=>gt 120 a.code)=false
theorem adw(s:Setup):Fc Tryz.prog 35 [.agg (fC s)] (.b (py s)):=by
 refine Fc.mk' [2] func35 rfl ntmps35 rfl rfl rfl (fun t w=>results_tmp results35 t _ w) ?_;refine J.vR 0 2 rfl rfl (fun hb=>?_);simp only[List.length_map,aG]at hb;refine go [] ?_;refine J.loop (ι:=adx s) (fun sx=>[(1,.box 0 0),(2,.b false),(3,.i sx.pre.length)]) (fun sx=>[(0,.cells (fC s))]) (fun sx=>sx.rest.length) ⟨[],_,rfl,rfl⟩ ?_ ?_
 ·exact Le.mk rfl (.s rfl rfl (.s rfl rfl (.s rfl rfl .nil))) (.cons rfl rfl .nil)
 ·rintro⟨pre,rest,hx,hp⟩;show J _ _ _ _ [(1,.box 0 0),(2,.b false),(3,.i pre.length)] [(0,.cells (fC s))];have hl:=congrArg List.length hx;simp only[List.length_append]at hl;rcases rest with _|⟨x,rest⟩
  ·skip;refine go [] ?_;refine a_ (by simp at hl⊢;omega) ?_;refine go [] ?_;refine br (fun h1=>?_) (fun h1=>?_)
   ·exact ah rfl (Sub.bool (by exact tB (lI (mO hx hp) (h1.symm.trans zS)).symm))
   ·refine oP (ai call79 rfl (ads _)) ?_;refine gP (fun hg=>ai call80 rfl (ady _)) ?_;refine gP (fun hg=>ai call81 rfl (adl _ _)) ?_;exact ah rfl (Sub.bool (by exact lI (lI (mO hx hp) (h1.symm.trans zS)).symm zS))
  ·simp only[List.length_cons]at hl;refine go [] ?_;refine bk zQ ?_;refine ix zO (aS D2 hx rfl) ?_;refine br (fun h2=>?_) (fun h2=>?_)
   ·exact ah rfl (Sub.bool (by exact tB (tB (nD hx h2)).symm))
   ·refine sd (aw zO) ?_;exact nx ⟨pre++[x],rest,by simp[hx],iZ hp h2⟩ zS (Le.mk rfl (.s rfl rfl (.s rfl rfl (.cons rfl (Sub.int zS) rfl .nil))) (.cons rfl rfl .nil))
theorem ze(f:aM):Fc Tryz.prog 39 [.agg (cj f)] (.b (oE f)):=by
 refine Fc.mk' [2] func39 rfl ntmps39 rfl rfl rfl (fun t w=>results_tmp results39 t _ w) ?_;refine go [] ?_;refine oP (bK (n:=1) (rows:=[cj f]) underlying116 sizeOf35 rfl rfl rfl zeroValue35 rfl rfl rfl rfl rfl rfl rfl) ?_;refine oP (ai call84 rfl (agU [f]).sub) ?_;exact ah rfl (Sub.bool zS)
structure adm(f:Fact)where
 pre:List du
 rest:List du
 hx:f.fL=pre++rest
 hp:pre.any A5=false
structure adn(f:Fact)(EZ:f.fL.any A5=false)where
 zT:List cT
 Ae:List cT
 yZ:f.opts=zT++Ae
 yS:zT.any yx=false
theorem I9(f:Fact):Fc Tryz.prog 8 [.agg (aX f)] (.b (px f)):=by
 refine Fc.mk' [2] func8 rfl ntmps8 rfl rfl rfl (fun t w=>results_tmp results8 t _ w) ?_;refine J.vR 0 18 rfl rfl (fun hb=>?_);simp only[List.length_map,aG]at hb;refine J.vR 0 19 rfl rfl (fun fZ=>?_);simp only[List.length_map,aG]at fZ;refine go [] ?_;refine gP (fun hg=>ai call38 rfl (Fu _)) ?_;refine gP (fun hg=>ai call38 rfl (Fu _)) ?_;refine gP (fun hg=>ai call38 rfl (Fu _)) ?_;refine gP (fun hg=>ai call39 rfl (ze _)) ?_;refine gP (fun hg=>ai call39 rfl (ze _)) ?_;refine gP (fun hg=>ai call39 rfl (ze _)) ?_;refine br (fun h1=>?_) (fun h1=>?_)
 ·exact ah rfl (Sub.bool (by exact tB h1))
 ·refine br (fun h2=>?_) (fun h2=>?_)
  ·exact ah rfl (Sub.bool (by exact lI h1 (tB (by simpa[yu]using h2))))
  ·refine J.loop (ι:=adm f) (fun sx=>[(1,.box 0 0),(2,.b false),(3,.i sx.pre.length)]) (fun sx=>[(0,.cells (aX f))]) (fun sx=>sx.rest.length) ⟨[],_,rfl,rfl⟩ ?_ ?_
   ·exact Le.mk rfl (.s rfl rfl (.s rfl rfl (.s rfl rfl .nil))) (.cons rfl rfl .nil)
   ·rintro⟨pre,rest,hx,hp⟩;show J _ _ _ _ [(1,.box 0 0),(2,.b false),(3,.i pre.length)] [(0,.cells (aX f))];have hl:=congrArg List.length hx;simp only[List.length_append]at hl;rcases rest with _|⟨x,rest⟩
    ·have EZ:=mO hx hp;refine go [] ?_;refine a_ (by simp at hl⊢;omega) ?_;refine go [] ?_;refine J.loop (ι:=adn f EZ) (fun sx=>[(1,.box 0 0),(2,.b false),(4,.i sx.zT.length)]) (fun sx=>[(0,.cells (aX f))]) (fun sx=>sx.Ae.length) ⟨[],_,rfl,rfl⟩ ?_ ?_
     ·exact Le.mk rfl (.s rfl rfl (.s rfl rfl (.s rfl rfl .nil))) (.cons rfl rfl .nil)
     ·rintro⟨zT,Ae,yZ,yS⟩;show J _ _ _ _ [(1,.box 0 0),(2,.b false),(4,.i zT.length)] [(0,.cells (aX f))];have JW:=congrArg List.length yZ;simp only[List.length_append]at JW;rcases Ae with _|⟨xq,Ae⟩
      ·skip;refine go [] ?_;refine a_ (by simp at JW⊢;omega) ?_;refine go [] ?_;exact ah rfl (Sub.bool (by exact lI h1 (lI (by simpa[yu]using h2) (lI EZ (mO yZ yS).symm))))
      ·simp only[List.length_cons]at JW;refine go [] ?_;refine bk zQ ?_;refine ix zO (aS ma yZ rfl) ?_;refine gP (fun hg=>ai call39 rfl (ze _)) ?_;refine gP (fun hg=>ai call39 rfl (ze _)) ?_;refine gP (fun hg=>ai call39 rfl (ze _)) ?_;refine br (fun h3=>?_) (fun h3=>?_)
       ·exact ah rfl (Sub.bool (by exact lI h1 (lI (by simpa[yu]using h2) (lI EZ (nD yZ h3).symm))))
       ·refine sd (aw zO) ?_;exact nx ⟨zT++[xq],Ae,by simp[yZ],iZ yS h3⟩ zS (Le.mk rfl (.s rfl rfl (.s rfl rfl (.cons rfl (Sub.int zS) rfl .nil))) (.cons rfl rfl .nil))
    ·simp only[List.length_cons]at hl;refine go [] ?_;refine bk zQ ?_;refine ix zO (aS jX hx rfl) ?_;refine my (fun hg=>And.intro zO (aS jX hx rfl)) ?_;refine gP (fun hg=>ai call38 rfl (Fu _)) ?_;refine br (fun h4=>?_) (fun h4=>?_)
     ·exact ah rfl (Sub.bool (by exact lI h1 (lI (by simpa[yu]using h2) (tB (nD hx h4)))))
     ·refine sd (aw zO) ?_;exact nx ⟨pre++[x],rest,by simp[hx],iZ hp h4⟩ zS (Le.mk rfl (.s rfl rfl (.s rfl rfl (.cons rfl (Sub.int zS) rfl .nil))) (.cons rfl rfl .nil))
end Go.T
namespace Go.T
open Go
theorem EP{s:aa}{n:Int}(hn:n=0)(h:0<s.length):s[n.toNat]?=some (s.headD 0):=by
 subst hn;cases s<;>simp_all
theorem vu{s:aa}(h:0<s.length)(h':(s.headD 0).toNat=45):cQ s=(s.drop 1,true):=by
 cases s with
 |nil=>simp at h
 |cons c r=>
  have:c=45:=UInt8.toNat_inj.1 (by simpa using h');subst this;rfl
theorem tW{s:aa}(h:¬(0<s.length∧(s.headD 0).toNat=45)):cQ s=(s,false):=by
 cases s with
 |nil=>rfl
 |cons c r=>
  have h':c≠45:=by
   rintro rfl;simp at h
  unfold cQ;split
  ·rename_i j0;simp at j0;exact absurd j0.1 h'
  ·rfl
theorem AN{s:aa}(h:0<s.length)(h':(s.headD 0).toNat=48):eO s=eO (s.drop 1):=by
 cases s with
 |nil=>simp at h
 |cons c r=>
  have:c=48:=UInt8.toNat_inj.1 (by simpa using h');subst this;simp[eO]
theorem uq{s:aa}(h:¬(0<s.length∧(s.headD 0).toNat=48)):eO s=s:=by
 cases s with
 |nil=>rfl
 |cons c r=>
  have h':c≠48:=by
   rintro rfl;simp at h
  unfold eO;split
  ·rename_i j0;simp at j0;exact absurd j0.1 h'
  ·rfl
theorem DY(s:aa):(eO s).length≤s.length:=by
 induction s with
 |nil=>simp[eO]
 |cons c r ih=>
  unfold eO;split
  ·rename_i j0;simp at j0;rw[←j0.2];simp;omega
  ·exact Nat.le_refl _
theorem GI(s:aa):(cQ s).1.length≤s.length:=by
 unfold cQ;split<;>simp
theorem kW(s:aa):(digits s).1.length≤s.length:=by
 unfold digits;split
 ·exact Nat.le_trans (DY _) (GI s)
 ·simp
theorem alH(s:aa)(h:(cQ s).2=true):(cQ s).1.length+1=s.length:=by
 unfold cQ at*;split at h<;>simp_all
theorem abi(s:aa)(p:UInt8→Bool)(h:s.all p=true):(eO s).all p=true:=by
 induction s with
 |nil=>simpa[eO]using h
 |cons c r ih=>
  unfold eO;split
  ·rename_i j0;simp at j0;rw[←j0.2];exact ih (by simp at h⊢;exact h.2)
  ·exact h
theorem nE(s:aa):(digits s).1.all bZ=true:=by
 unfold digits;split
 ·rename_i h;exact abi _ _ h
 ·rfl
theorem YT(s:aa):(canon s).length≤s.length:=by
 have h1:=kW s;unfold canon;split
 ·rename_i h;have:(cQ s).2=true:=by
   unfold digits at h;split at h<;>simp_all
  have h2:=alH s this;have h3:(digits s).1.length≤(cQ s).1.length:=by
   unfold digits;split
   ·exact DY _
   ·simp
  simp;omega
 ·exact h1
theorem aaB(s:aa)(h:(digits s).2=true):(digits s).1.length+1≤s.length:=by
 have:=YT s;unfold canon at this;rw[if_pos h]at this;simpa using this
theorem H2(s:aa):(s.drop 1).take (s.length-1)=s.drop 1:=List.take_of_length_le zS
theorem OD{s cur:aa}(hd:(cQ s).1.all bZ=true)(hx:eO cur=eO (cQ s).1)(h:(cur.length:Int)≤0∨¬((cur.headD 0).toNat:Int)=48):cur=(digits s).1:=by
 unfold digits;rw[if_pos hd,←hx];exact(uq zO).symm
theorem OE{s cur:aa}(hd:(cQ s).1.all bZ=true)(hx:eO cur=eO (cQ s).1)(h:(cur.length:Int)≤0∨¬((cur.headD 0).toNat:Int)=48):((cQ s).2&&decide ((0:Int)<cur.length))=(digits s).2:=by
 unfold digits;rw[if_pos hd,←hx,uq zO];cases cur<;>simp<;>omega
theorem DQ{s pre rest:aa}{x:UInt8}(hx:(cQ s).1=pre++x::rest)(h:(x.toNat:Int)<48∨57<(x.toNat:Int)):digits s=([],false):=by
 unfold digits;rw[if_neg];rw[hx];simp only[List.all_append,List.all_cons,Bool.and_eq_true,not_and];intro _ h2;simp[bZ]at h2;omega
theorem qL{α:Type}{p:List α→Prop}(h0:p [])(h1:∀l a,p l→p (l++[a]))(l:List α):p l:=by
  rw[←List.reverse_reverse l];induction l.reverse with
  |nil=>simpa
  |cons a l ih=>simpa using h1 _ a ih
theorem tj(d:aa)(c:UInt8):natVal (d++[c])=10*natVal d+(c.toNat-48):=by simp[natVal]
theorem pT:∀(d:aa),d.all bZ=true→natVal d<10^d.length:=by
  refine qL (by simp[natVal]) ?_;intro d c ih h;simp only[List.all_append,List.all_cons,List.all_nil,Bool.and_true,Bool.and_eq_true]at h;have:=ih h.1;have hc:c.toNat-48≤9:=by have:=h.2;simp[bZ]at this;omega
  rw[tj,List.length_append,List.length_singleton,Nat.pow_succ];omega
theorem Lh{d:aa}(h:d.all bZ=true)(hl:d.length≤17):natVal d<100000000000000000:=by
  have h1:=pT d h;have h2:10^d.length≤10^17:=Nat.pow_le_pow_right zO hl;omega
def gd(n:Nat):aa:=if h:n=0 then[]else gd (n/10)++[UInt8.ofNat (48+n%10)]
decreasing_by omega
def ofInt(n:Int):aa:=if n<0 then 45::gd n.natAbs else gd n.natAbs
def qb(a b:aa):aa:=ofInt (val a+val b)
theorem jL:gd 0=[]:=by rw[gd];simp
theorem rY{n:Nat}(h:n≠0):gd n=gd (n/10)++[UInt8.ofNat (48+n%10)]:=by rw[gd];simp[h]
theorem zu(k:Nat):∀n,n<10^k→(gd n).length≤k:=by
  induction k with
  |zero=>
      intro n h;obtain rfl:n=0:=by omega
      simp[jL]
  |succ k ih=>
    intro n h;by_cases e:n=0
    · subst e;simp[jL]
    · rw[rY e]
      have:=ih (n/10) (by rw[Nat.pow_succ]at h;omega);simp;omega
theorem T6{c:Int}(h:c≠0):gd c.natAbs=gd (c.tdiv 10).natAbs++[UInt8.ofNat (48+c.natAbs%10)]:=by
  rw[rY zO,Int.natAbs_tdiv];rfl
theorem am7(c:Int):(c.tmod 10).natAbs=c.natAbs%10:=by rw[Int.natAbs_tmod];rfl
theorem alZ(c:Int):(c.tdiv 10).natAbs=c.natAbs/10:=by rw[Int.natAbs_tdiv];rfl
theorem WZ{s:aa}(h:(digits s).1.length≤17):-100000000000000000<val s∧val s<100000000000000000:=by
  have:=Lh (nE s) h;unfold val;split<;>omega
theorem MR{n:Int}(h1:-2147483648≤n)(h2:n≤2147483647):IntKind.i32.wrap n=n:=IntWalk.i32_in n ⟨h1,h2⟩
theorem Ca(n:Nat):(gd n).all bZ=true:=by
 induction n using Nat.strongRecOn with
 |_ n ih=>
  by_cases e:n=0
  ·subst e;simp[jL]
  ·rw[rY e,List.all_append,ih (n/10) zO];have:(48+n%10)%256=48+n%10:=Nat.mod_eq_of_lt zO;simp[bZ,this];omega
theorem T8(n:Nat):natVal (gd n)=n:=by
 induction n using Nat.strongRecOn with
 |_ n ih=>
  by_cases e:n=0
  ·subst e;simp[jL,natVal]
  ·rw[rY e,tj,ih (n/10) zO];have:(48+n%10)%256=48+n%10:=Nat.mod_eq_of_lt zO;simp[this];omega
theorem Cb{n:Nat}:gd n=[]↔n=0:=by
 constructor
 ·intro h;by_cases e:n=0
  ·exact e
  ·rw[rY e]at h;simp at h
 ·rintro rfl;exact jL
theorem Ld(n:Nat):∀c r,gd n=c::r→c.toNat≠48:=by
 induction n using Nat.strongRecOn with
 |_ n ih=>
  intro c r h;by_cases e:n=0
  ·subst e;simp[jL]at h
  ·rw[rY e]at h;by_cases e2:n/10=0
   ·rw[e2,jL]at h;simp only[List.nil_append,List.cons.injEq]at h;rw[←h.1];have:(48+n%10)%256=48+n%10:=Nat.mod_eq_of_lt zO;simp[this];omega
   ·cases hd:gd (n/10)with
    |nil=>exact absurd (Cb.1 hd) e2
    |cons c' r'=>
     rw[hd]at h;simp only[List.cons_append,List.cons.injEq]at h;rw[←h.1];exact ih (n/10) zO c' r' hd
theorem OQ(n:Nat):eO (gd n)=gd n:=by
 apply uq;intro⟨h1,h2⟩;cases hd:gd n with
 |nil=>simp[hd]at h1
 |cons c r=>rw[hd]at h2;exact Ld n c r hd (by simpa using h2)
theorem alG{s:aa}(h:s.all bZ=true):cQ s=(s,false):=by
 apply tW;intro⟨h1,h2⟩;cases s with
 |nil=>simp at h1
 |cons c r=>
  simp only[List.all_cons,Bool.and_eq_true,bZ,decide_eq_true_eq]at h;simp at h2;omega
theorem aaC(n:Int):digits (ofInt n)=(gd n.natAbs,decide (n<0)):=by
 unfold ofInt;split
 ·rename_i h;have:cQ (45::gd n.natAbs)=(gd n.natAbs,true):=rfl;unfold digits;rw[this];simp only[Ca,if_true,OQ,h,decide_true,Bool.true_and];have:gd n.natAbs≠[]:=by rw[ne_eq,Cb];omega
  simp[this]
 ·rename_i h;unfold digits;rw[alG (Ca _)];simp[Ca,OQ,h]
theorem gp(n:Int):val (ofInt n)=n:=by
 unfold val;rw[aaC];simp only[T8,decide_eq_true_eq];split<;>omega
theorem Up{n:Int}:ofInt n=[]↔n=0:=by
 unfold ofInt;split
 ·simp;omega
 ·rw[Cb];omega
theorem Lu:ofInt 0=[]:=Up.2 rfl
theorem E7{α β:Type}[Inhabited α]{l pre rest:List α}{n:Int}(f:α→β)(h:l=pre++rest)(h0:0<pre.length)(hn:n=(pre.length:Int)-1):(l.map f)[n.toNat]?=some (f (pre.getLastD default)):=by
 subst h;subst hn;have e:((pre.length:Int)-1).toNat=pre.length-1:=by omega
 rw[e,List.getElem?_map,List.getElem?_append_left zO];have:pre[pre.length-1]?=some (pre.getLastD default):=by
  rw[←List.getLast?_eq_getElem?];cases pre with
  |nil=>simp at h0
  |cons a l=>simp[List.getLast?_cons,List.getLastD_cons,List.getLastD_eq_getLast?]
 rw[this];rfl
def opposite(e:Entry):Entry:={e with lines:=e.lines.map fun l=>{l with Hj:=ni l.Hj}}
@[reducible] def bb(m:List Nat):List (List D):=m.map fun(n:Nat)=>[.raw (.int .u64 (n:Int))]
@[reducible] def aF(m:List Nat):D:=.snap 1 false (bb m)
@[reducible] def mS(cD:Bool)(m:List Nat):List D:=[.b cD,aF m]
theorem RE{α β:Type}(f:α→β)(i:List α)(x:α){n:Int}(hn:n=((i++[x]).map f).length-1):((i++[x]).map f)[n.toNat]?=some (f x):=by
 have:n.toNat=i.length:=by rw[hn];simp
 rw[this];simp
theorem tw{env:Env}{x:Operand}{k:IntKind}{n m:Int}(h:env.op x=some (.raw (.int k n)))(e:n=m):env.op x=some (.raw (.int k m)):=by rw[h,e]
def gB:Nat:=1000000000
def an:List Nat→Nat
 |[]=>0
 |x::r=>x+gB*an r
def aR(m:List Nat):Prop:=∀x∈m,x<gB
def bm(m:List Nat):List Nat:=(m.reverse.dropWhile (· ==0)).reverse
theorem lV{α:Type}(l:List α):l=[]∨∃i x,l=i++[x]:=by
 rcases List.eq_nil_or_concat l with h|⟨i,x,h⟩
 ·exact .inl h
 ·exact .inr ⟨i,x,by rw[h,List.concat_eq_append]⟩
theorem sv(i:List Nat):bm (i++[0])=bm i:=by simp[bm]
theorem x6(i:List Nat){x:Nat}(h:x≠0):bm (i++[x])=i++[x]:=by simp[bm,h]
theorem u7(a b:List Nat):an (a++b)=an a+gB^a.length*an b:=by
 induction a with
 |nil=>simp[an]
 |cons x a ih=>simp only[List.cons_append,an,ih,List.length_cons,Nat.pow_succ];rw[Nat.mul_add,Nat.mul_comm (gB^a.length) gB,Nat.mul_assoc];omega
theorem tf{m:List Nat}(h:aR m):an m<gB^m.length:=by
 induction m with
 |nil=>simp[an]
 |cons x m ih=>
  have h1:=ih (fun y hy=>h y (List.mem_cons_of_mem _ hy));have h2:=h x List.mem_cons_self;simp only[an,List.length_cons,Nat.pow_succ];have:gB*(an m+1)≤gB*gB^m.length:=Nat.mul_le_mul_left _ h1;rw[Nat.mul_comm (gB^m.length)];rw[Nat.mul_add]at this;omega
theorem DM(m:List Nat):an (bm m)=an m:=by
 induction m using qL with
 |h0=>rfl
 |h1 i x ih=>
  by_cases h:x=0
  ·subst h;rw[sv,ih,u7];simp[an]
  ·rw[x6 i h]
theorem Z3(m:List Nat):∀x∈bm m,x∈m:=by
 intro x hx;unfold bm at hx;rw[List.mem_reverse]at hx;have:=(List.dropWhile_sublist _).mem hx;simpa using this
theorem x5{m:List Nat}(h:aR m):aR (bm m):=fun x hx=>h x (Z3 m x hx)
theorem um(m:List Nat):(bm m).length≤m.length:=by
 unfold bm;rw[List.length_reverse];exact Nat.le_trans (List.dropWhile_sublist _).length_le zS
def fE(s:aa):List Nat:=if h:s.length=0 then[]else natVal (s.drop (s.length-9))::fE (s.take (s.length-9))
termination_by s.length
decreasing_by simp;omega
theorem sS:fE []=[]:=by rw[fE];simp
theorem yy{s:aa}(h:s.length≠0):fE s=natVal (s.drop (s.length-9))::fE (s.take (s.length-9)):=by rw[fE,dif_neg h]
theorem va(a b:aa):natVal (a++b)=natVal a*10^b.length+natVal b:=by
 induction b using qL with
 |h0=>simp[natVal]
 |h1 i x ih=>
   rw[←List.append_assoc,tj,ih,tj,List.length_append,List.length_singleton,Nat.pow_succ,Nat.mul_add,←Nat.mul_assoc];have:10*natVal a*10^i.length=natVal a*(10^i.length*10):=by rw[Nat.mul_comm 10 (natVal a),Nat.mul_assoc,Nat.mul_comm 10]
   omega
theorem qh(s:aa):(fE s).length≤s.length:=by
 induction h:s.length using Nat.strongRecOn generalizing s with
 |_ n ih=>
  by_cases h0:s.length=0
  ·have:s=[]:=List.length_eq_zero_iff.1 h0;subst this;rw[sS];simp
  ·rw[yy h0,List.length_cons];have:=ih (s.take (s.length-9)).length zQ (s.take (s.length-9)) rfl;simp at this⊢;omega
theorem Jb(s:aa)(hd:s.all bZ=true):aR (fE s)∧an (fE s)=natVal s:=by
 induction h:s.length using Nat.strongRecOn generalizing s with
 |_ n ih=>
  by_cases h0:s.length=0
  ·have:s=[]:=List.length_eq_zero_iff.1 h0;subst this;rw[sS];exact⟨fun x hx=>absurd hx zS,rfl⟩
  ·rw[yy h0];have hs:s=s.take (s.length-9)++s.drop (s.length-9):=(List.take_append_drop ..).symm;have QG:(s.take (s.length-9)).all bZ=true∧(s.drop (s.length-9)).all bZ=true:=by
    rw[hs,List.all_append,Bool.and_eq_true]at hd;exact hd
   obtain⟨h1,h2⟩:=ih (s.take (s.length-9)).length zQ (s.take (s.length-9)) QG.1 rfl;have hl:(s.drop (s.length-9)).length≤9:=by simp;omega
   have h3:=pT _ QG.2;have h4:10^(s.drop (s.length-9)).length≤10^9:=Nat.pow_le_pow_right zO hl;have h5:natVal (s.drop (s.length-9))<gB:=by unfold gB;omega
   refine⟨fun x hx=>?_,?_⟩
   ·rcases List.mem_cons.1 hx with rfl|hx
    ·exact h5
    ·exact h1 x hx
   ·simp only[an,h2];conv=>rhs;rw[hs,va]
    by_cases h9:s.length≤9
    ·have:s.length-9=0:=by omega
     rw[this];simp[natVal]
    ·have:(s.drop (s.length-9)).length=9:=by simp;omega
     rw[this,Nat.mul_comm (natVal (s.take (s.length-9)))];unfold gB;omega
end Go.T
