/-
  Contracts of the functions that the statement reaches, and the logic in which they are proved (no condition): parts W2, Tab, W70, Spec2, Spec3, Spec4, Spec5, Spec6, Spec7, Spec8, Shelf.
-/
import Derived.Test.YtoaceanbddegbaaGreatDoorA06
import Derived.Test.YtoaceanbddegbaaGreatDoorProg
import Derived.KernelRfl
import Derived.Shelf.Strings.Builder1
import Derived.Shelf.Strings.Builder2
import Derived.Shelf.Strings.Trim
import Derived.Shelf.Small.Utf8
import Derived.Shelf.Small.Bits
import Derived.Shelf.Small.Strs
import Derived.Shelf.Small.Wraps
import Derived.Shelf.Strings.BuilderF
import Derived.Shelf.Strings.BuilderK
import Derived.Shelf.Strconv.Atoi
import Derived.Shelf.Strconv.Itoa0
import Derived.Shelf.Strconv.Itoa1
import Derived.Shelf.LaysM
import Derived.Shelf.Strconv.Itoa2
import Derived.Shelf.Strconv.Itoa3
import Derived.Shelf.Strconv.AtoiErrFast
import Derived.Shelf.Strconv.ParseIntEmpty
import Derived.Shelf.Strconv.AtoiFail
import Derived.Shelf.Strconv.Clone
import Derived.Shelf.Strconv.SyntaxError
import Derived.Shelf.LaysC
import Derived.Shelf.Strconv.ToError
import Derived.Shelf.Strconv.Lower
import Derived.Shelf.Strconv.ParseUint10
import Derived.Shelf.Strconv.ParseUint10Empty
import Derived.Shelf.Strconv.ParseUint10Any
import Derived.Shelf.Strconv.ParseInt10
import Derived.Shelf.Strconv.AtoiLong
import Derived.Shelf.Strconv.AtoiInnerAll
import Derived.Shelf.Strconv.RangeError
import Derived.Shelf.Strconv.ToErrorRange
import Derived.Shelf.Strconv.AtoiAll
import Derived.Shelf.Strconv.ParseUint10b64
import Derived.Ground.MpProg
import Derived.Shelf.Pu.ParseUintPublic10
import Derived.Shelf.Strings.Search1
import Derived.Shelf.Strings.Search2
import Derived.Shelf.Strings.Cut
import Derived.Shelf.Strings.Shaped
import Derived.Shelf.Strings.Prefix
import Derived.Shelf.Unicode.Decode
import Derived.Shelf.Strings.Runes
import Derived.Shelf.Strings.AsciiSet
import Derived.Shelf.Bits.Mul64
import Derived.Shelf.Strings.Repeat
import Derived.Shelf.Unicode.DecodeSlow
import Derived.Shelf.Unicode.DecodeAny
import Derived.Shelf.Unicode.DecodeLast
import Derived.Shelf.Slices.CompactS
import Derived.Shelf.Slices.Cells
import Derived.Ground.SlgnProg
import Derived.Shelf.SlicesE.Equal
import Derived.Shelf.SlicesE.Compact
import Derived.Ground.SlgfProg
import Derived.Shelf.SlicesE.IndexFunc
import Derived.Shelf.SlicesE.DeleteFunc
import Derived.Ground.SlsfProg
import Derived.Shelf.SlSortCmp.Insertion
import Derived.Ground.SlgmProg
import Derived.Shelf.SortM.Plain
import Derived.Shelf.SortM.SortNone
import Derived.Shelf.SlSortCmp.SiftDown1
import Derived.Shelf.SlSortCmp.HeapSort1
import Derived.Shelf.SlSortCmp.Insertion1
import Derived.Shelf.SlSortCmp.Median1
import Derived.Shelf.SlSortCmp.Pivot1
import Derived.Shelf.SlSortCmp.ReverseRange1
import Derived.Shelf.SlSortCmp.PartialInsertion1
import Derived.Shelf.SlSortCmp.PartitionEqual1
import Derived.Shelf.SlSortCmp.Partition1
import Derived.Shelf.SlSortCmp.Pdq1
import Derived.Shelf.SlSortCmp.Whole1
import Derived.Shelf.SlSortCmp.NoneTotal
set_option linter.all false
namespace Go.T
open Go Go.Proofs Go.Proofs.Tryz
set_option maxRecDepth 20000
theorem mS:Tryz.prog.follows .mixedOrders=true:=by kernel_rfl
structure Yz(s:ae)where
 pre:List UInt8
 rest:List UInt8
 hx:s=pre++rest
 hp:pre.all (fun c=>65≤c.toNat&&c.toNat≤90)=true
theorem Yy(s:ae):Fc Tryz.prog 86 [.str s] (.b (ig s)):=by
 refine bE func86 ntmps86 results86 ?_;refine U.qh 0 rfl (fun hb=>?_);simp only[aH]at hb;refine U.seq<|rg<|.ag rfl rfl<|.nil<|U.seq<|U.seq<|rg<|.ag rfl rfl<|.nil<|U.block<|U.loop (ι:=Yz s) (fun sx=>[(0,.str s),(3,.i sx.pre.length)]) (fun sx=>[]) (fun sx=>sx.rest.length) ⟨[],s,rfl,rfl⟩ ?_ ?_
 ·exact Le.mk rfl (.n 2 rfl rfl .nil) .nil
 ·rintro⟨pre,rest,hx,hp⟩;dsimp only;rcases lc hx with⟨rfl,hl⟩|⟨x,rest,rfl,hl⟩
  ·skip;refine U.seq<|U.seq<|rg<|.mv rfl rfl<|.mv rfl rfl<|.P rfl (ko underlying9 rfl)<|.P rfl (bY rfl rfl)<|.nil<|U.fG rfl (by simp at hl⊢;omega)<|U.exit (fc (eY ?_));refine U.seq<|rg<|.mv rfl rfl<|.P rfl (ko underlying9 rfl)<|.P rfl (l5 rfl rfl)<|.ag rfl rfl<|.nil<|U.ret (?_);exact bS rfl (Sub.bool (by grind[ig]))
  ·refine U.seq<|U.seq<|rg<|.mv rfl rfl<|.mv rfl rfl<|.P rfl (ko underlying9 rfl)<|.P rfl (bY rfl rfl)<|.nil<|U.iY rfl zQ<|U.skip<|U.seq<|U.block<|U.seq (U.cH [.p,.p,.p,.p,.p,.p,.p,.p,.p,.p] ?_);refine .mv rfl rfl<|.mv rfl rfl<|.P rfl (rS underlying9 rfl rfl zO (sR hx rfl))<|.P rfl (bY rfl rfl)<|.mv rfl rfl<|.gF rfl (.inl rfl) rfl rfl rfl (fun hg=>pk (fun _=>bG rfl _))<|.gF rfl (.inl rfl) rfl rfl rfl (fun hg=>pk (fun _=>bG rfl _))<|.gF rfl (.inl rfl) rfl rfl rfl (fun hg=>pk (fun _=>rS underlying9 (bI rfl (nt hg)) (bI rfl (nt hg)) zO (sR hx rfl) _))<|.gF rfl (.inl rfl) rfl rfl rfl (fun hg=>pk (fun _=>ju (bI rfl (nt hg)) rfl _))<|.P rfl (rT rfl rfl)<|.nil<|U.cond rfl (fun h1=>?_) (fun h1=>?_)
   ·refine U.seq<|rg<|.ag rfl rfl<|.nil<|U.ret (lS (u4 (lS (?_))));exact bS rfl (Sub.bool (by grind[ig]))
   ·refine U.skip<|U.nil (dv ?_);refine rg<|.mv rfl rfl<|.P rfl (cn rfl rfl (aB zO))<|.ag rfl rfl<|.nil<|U.nil (dx ?_);exact⟨⟨pre++[x],rest,by simp[hx],by grind⟩,by simp,Le.mk rfl (.s rfl rfl (.cons rfl (Sub.int zS) rfl .nil)) .nil⟩
end Go.T
namespace Go.T
open Go Go.Proofs
set_option maxRecDepth 20000
def tk2:{i:aO//aT (Tryz.prog) 2 i}:=⟨_,bQ [.raw (.int .i64 0)] Tryz.underlying2 Tryz.isAgg2 Tryz.sizeOf2 Tryz.zeroValue2 rfl⟩
def tk3:{i:aO//aT (Tryz.prog) 3 i}:=⟨_,bQ [.raw (.int .i64 0)] Tryz.underlying3 Tryz.isAgg3 Tryz.sizeOf3 Tryz.zeroValue3 rfl⟩
def tk4:{i:aO//aT (Tryz.prog) 4 i}:=⟨_,bQ [.raw (.bool false)] Tryz.underlying4 Tryz.isAgg4 Tryz.sizeOf4 Tryz.zeroValue4 rfl⟩
def tk5:{i:aO//aT (Tryz.prog) 5 i}:=⟨_,bQ [.raw (.int .u8 0)] Tryz.underlying5 Tryz.isAgg5 Tryz.sizeOf5 Tryz.zeroValue5 rfl⟩
def tk9:{i:aO//aT (Tryz.prog) 9 i}:=⟨_,bQ [.str []] Tryz.underlying9 Tryz.isAgg9 Tryz.sizeOf9 Tryz.zeroValue9 rfl⟩
def alB:{i:aO//aT (Tryz.prog) 21 i}:=⟨_,bQ [.raw (.int .i32 0)] Tryz.underlying21 Tryz.isAgg21 Tryz.sizeOf21 Tryz.zeroValue21 rfl⟩
def alF:{i:aO//aT (Tryz.prog) 22 i}:=⟨_,bQ [.raw (.slice none 0 0)] Tryz.underlying22 Tryz.isAgg22 Tryz.sizeOf22 Tryz.zeroValue22 rfl⟩
def alL:{i:aO//aT (Tryz.prog) 24 i}:=⟨_,bQ [.raw (.slice none 0 0)] Tryz.underlying24 Tryz.isAgg24 Tryz.sizeOf24 Tryz.zeroValue24 rfl⟩
def alN:{i:aO//aT (Tryz.prog) 25 i}:=⟨_,bQ [.raw (.slice none 0 0)] Tryz.underlying25 Tryz.isAgg25 Tryz.sizeOf25 Tryz.zeroValue25 rfl⟩
def alO:{i:aO//aT (Tryz.prog) 26 i}:=⟨_,bQ [.raw (.slice none 0 0)] Tryz.underlying26 Tryz.isAgg26 Tryz.sizeOf26 Tryz.zeroValue26 rfl⟩
def alP:{i:aO//aT (Tryz.prog) 27 i}:=⟨_,bQ [.raw (.slice none 0 0)] Tryz.underlying27 Tryz.isAgg27 Tryz.sizeOf27 Tryz.zeroValue27 rfl⟩
def alT:{i:aO//aT (Tryz.prog) 28 i}:=⟨_,bQ [.raw (.slice none 0 0)] Tryz.underlying28 Tryz.isAgg28 Tryz.sizeOf28 Tryz.zeroValue28 rfl⟩
def alX:{i:aO//aT (Tryz.prog) 29 i}:=⟨_,bQ [.raw (.slice none 0 0)] Tryz.underlying29 Tryz.isAgg29 Tryz.sizeOf29 Tryz.zeroValue29 rfl⟩
def al0:{i:aO//aT (Tryz.prog) 31 i}:=⟨_,jP [(0,1),(1,1),(2,1),(3,1),(4,1),(5,1)] [.raw (.slice none 0 0),.raw (.slice none 0 0),.raw (.slice none 0 0),.raw (.slice none 0 0),.raw (.slice none 0 0),.raw (.slice none 0 0)] Tryz.underlying31 Tryz.isAgg31 Tryz.sizeOf31 Tryz.zeroValue31 rfl (fun w=>by kernel_rfl)⟩
def al1:{i:aO//aT (Tryz.prog) 32 i}:=⟨_,bQ [.raw (.slice none 0 0)] Tryz.underlying32 Tryz.isAgg32 Tryz.sizeOf32 Tryz.zeroValue32 rfl⟩
def al2:{i:aO//aT (Tryz.prog) 34 i}:=⟨_,jP [(0,6),(6,1)] [.raw (.slice none 0 0),.raw (.slice none 0 0),.raw (.slice none 0 0),.raw (.slice none 0 0),.raw (.slice none 0 0),.raw (.slice none 0 0),.raw (.slice none 0 0)] Tryz.underlying34 Tryz.isAgg34 Tryz.sizeOf34 Tryz.zeroValue34 rfl (fun w=>by kernel_rfl)⟩
def al7:{i:aO//aT (Tryz.prog) 37 i}:=⟨_,bQ [.str []] Tryz.underlying37 Tryz.isAgg37 Tryz.sizeOf37 Tryz.zeroValue37 rfl⟩
def al8:{i:aO//aT (Tryz.prog) 39 i}:=⟨_,jP [(0,1),(1,1)] [.str [],.str []] Tryz.underlying39 Tryz.isAgg39 Tryz.sizeOf39 Tryz.zeroValue39 rfl (fun w=>by kernel_rfl)⟩
def al9:{i:aO//aT (Tryz.prog) 40 i}:=⟨_,bQ [.raw .nilFunc] Tryz.underlying40 Tryz.isAgg40 Tryz.sizeOf40 Tryz.zeroValue40 rfl⟩
def al_:{i:aO//aT (Tryz.prog) 42 i}:=⟨_,bQ [.raw (.int .i64 0)] Tryz.underlying42 Tryz.isAgg42 Tryz.sizeOf42 Tryz.zeroValue42 rfl⟩
def ama:{i:aO//aT (Tryz.prog) 43 i}:=⟨_,bQ [.raw (.slice none 0 0)] Tryz.underlying43 Tryz.isAgg43 Tryz.sizeOf43 Tryz.zeroValue43 rfl⟩
def amb:{i:aO//aT (Tryz.prog) 45 i}:=⟨_,jP [(0,1),(1,1),(2,1)] [.raw (.int .i64 0),.str [],.raw (.slice none 0 0)] Tryz.underlying45 Tryz.isAgg45 Tryz.sizeOf45 Tryz.zeroValue45 rfl (fun w=>by kernel_rfl)⟩
def amc:{i:aO//aT (Tryz.prog) 48 i}:=⟨_,jP [(0,1),(1,1),(2,1)] [.str [],.str [],.str []] Tryz.underlying48 Tryz.isAgg48 Tryz.sizeOf48 Tryz.zeroValue48 rfl (fun w=>by kernel_rfl)⟩
def amd:{i:aO//aT (Tryz.prog) 49 i}:=⟨_,bQ [.raw .nilFunc] Tryz.underlying49 Tryz.isAgg49 Tryz.sizeOf49 Tryz.zeroValue49 rfl⟩
def ame:{i:aO//aT (Tryz.prog) 50 i}:=⟨_,bQ [.raw .nilFunc] Tryz.underlying50 Tryz.isAgg50 Tryz.sizeOf50 Tryz.zeroValue50 rfl⟩
def amf:{i:aO//aT (Tryz.prog) 51 i}:=⟨_,bQ [.raw .nilFunc] Tryz.underlying51 Tryz.isAgg51 Tryz.sizeOf51 Tryz.zeroValue51 rfl⟩
def amg:{i:aO//aT (Tryz.prog) 53 i}:=⟨_,bQ [.raw (.int .i64 0)] Tryz.underlying53 Tryz.isAgg53 Tryz.sizeOf53 Tryz.zeroValue53 rfl⟩
def amh:{i:aO//aT (Tryz.prog) 63 i}:=⟨_,jP [(0,1),(1,1)] [.str [],.raw (.int .i64 0)] Tryz.underlying63 Tryz.isAgg63 Tryz.sizeOf63 Tryz.zeroValue63 rfl (fun w=>by kernel_rfl)⟩
def ami:{i:aO//aT (Tryz.prog) 64 i}:=⟨_,bQ [.raw (.slice none 0 0)] Tryz.underlying64 Tryz.isAgg64 Tryz.sizeOf64 Tryz.zeroValue64 rfl⟩
def amj:{i:aO//aT (Tryz.prog) 65 i}:=⟨_,bQ [.raw (.slice none 0 0)] Tryz.underlying65 Tryz.isAgg65 Tryz.sizeOf65 Tryz.zeroValue65 rfl⟩
def amk:{i:aO//aT (Tryz.prog) 66 i}:=⟨_,bQ [.raw (.slice none 0 0)] Tryz.underlying66 Tryz.isAgg66 Tryz.sizeOf66 Tryz.zeroValue66 rfl⟩
def aml:{i:aO//aT (Tryz.prog) 67 i}:=⟨_,bQ [.raw (.slice none 0 0)] Tryz.underlying67 Tryz.isAgg67 Tryz.sizeOf67 Tryz.zeroValue67 rfl⟩
def amm:{i:aO//aT (Tryz.prog) 68 i}:=⟨_,bQ [.raw (.slice none 0 0)] Tryz.underlying68 Tryz.isAgg68 Tryz.sizeOf68 Tryz.zeroValue68 rfl⟩
def amn:{i:aO//aT (Tryz.prog) 70 i}:=⟨_,jP [(0,1),(1,1)] [.raw (.slice none 0 0),.raw (.slice none 0 0)] Tryz.underlying70 Tryz.isAgg70 Tryz.sizeOf70 Tryz.zeroValue70 rfl (fun w=>by kernel_rfl)⟩
def amo:{i:aO//aT (Tryz.prog) 72 i}:=⟨_,jP [(0,1),(1,1),(2,1),(3,2),(5,1),(6,1)] [.raw (.slice none 0 0),.raw (.slice none 0 0),.raw (.slice none 0 0),.raw (.slice none 0 0),.raw (.slice none 0 0),.raw (.slice none 0 0),.raw (.int .i64 0)] Tryz.underlying72 Tryz.isAgg72 Tryz.sizeOf72 Tryz.zeroValue72 rfl (fun w=>by kernel_rfl)⟩
def amp:{i:aO//aT (Tryz.prog) 73 i}:=⟨_,bQ [.raw (.slice none 0 0)] Tryz.underlying73 Tryz.isAgg73 Tryz.sizeOf73 Tryz.zeroValue73 rfl⟩
def amq:{i:aO//aT (Tryz.prog) 75 i}:=⟨_,jP [(0,1),(1,1)] [.str [],.str []] Tryz.underlying75 Tryz.isAgg75 Tryz.sizeOf75 Tryz.zeroValue75 rfl (fun w=>by kernel_rfl)⟩
def amr:{i:aO//aT (Tryz.prog) 77 i}:=⟨_,jP [(0,1),(1,1),(2,1),(3,1),(4,1),(5,1),(6,2),(8,2),(10,1),(11,1),(12,1),(13,2)] [.str [],.raw (.int .i64 0),.str [],.raw (.int .i64 0),.raw (.int .i64 0),.raw (.int .i64 0),.str [],.str [],.str [],.str [],.raw (.int .i64 0),.raw (.int .i64 0),.str [],.str [],.str []] Tryz.underlying77 Tryz.isAgg77 Tryz.sizeOf77 Tryz.zeroValue77 rfl (fun w=>by kernel_rfl)⟩
def ams:{i:aO//aT (Tryz.prog) 78 i}:=⟨_,bQ [.raw (.slice none 0 0)] Tryz.underlying78 Tryz.isAgg78 Tryz.sizeOf78 Tryz.zeroValue78 rfl⟩
def amu:{i:aO//aT (Tryz.prog) 79 i}:=⟨_,bQ [.raw (.slice none 0 0)] Tryz.underlying79 Tryz.isAgg79 Tryz.sizeOf79 Tryz.zeroValue79 rfl⟩
def amv:{i:aO//aT (Tryz.prog) 81 i}:=⟨_,jP [(0,1),(1,1),(2,1),(3,1),(4,1),(5,1),(6,1),(7,1),(8,1),(9,1),(10,1),(11,1),(12,2),(14,2),(16,2),(18,1),(19,1),(20,1)] [.str [],.raw (.int .i64 0),.raw (.bool false),.raw (.int .i64 0),.raw (.int .i64 0),.str [],.str [],.str [],.str [],.str [],.str [],.str [],.str [],.str [],.str [],.str [],.str [],.str [],.raw (.slice none 0 0),.raw (.slice none 0 0),.raw (.int .i64 0)] Tryz.underlying81 Tryz.isAgg81 Tryz.sizeOf81 Tryz.zeroValue81 rfl (fun w=>by kernel_rfl)⟩
def amw:{i:aO//aT (Tryz.prog) 82 i}:=⟨_,bQ [.raw (.slice none 0 0)] Tryz.underlying82 Tryz.isAgg82 Tryz.sizeOf82 Tryz.zeroValue82 rfl⟩
def amx:{i:aO//aT (Tryz.prog) 86 i}:=⟨_,bQ [.raw (.slice none 0 0)] Tryz.underlying86 Tryz.isAgg86 Tryz.sizeOf86 Tryz.zeroValue86 rfl⟩
def amy:{i:aO//aT (Tryz.prog) 88 i}:=⟨_,bQ [.raw .nilFunc] Tryz.underlying88 Tryz.isAgg88 Tryz.sizeOf88 Tryz.zeroValue88 rfl⟩
def amz:{i:aO//aT (Tryz.prog) 91 i}:=⟨_,bQ [.raw .nilFunc] Tryz.underlying91 Tryz.isAgg91 Tryz.sizeOf91 Tryz.zeroValue91 rfl⟩
def amA:{i:aO//aT (Tryz.prog) 93 i}:=⟨_,bQ [.raw .nilFunc] Tryz.underlying93 Tryz.isAgg93 Tryz.sizeOf93 Tryz.zeroValue93 rfl⟩
def amB:{i:aO//aT (Tryz.prog) 97 i}:=⟨_,jP [(0,1),(1,1),(2,1),(3,1),(4,1),(5,1),(6,1)] [.str [],.str [],.raw (.int .i64 0),.raw (.int .i64 0),.str [],.str [],.str []] Tryz.underlying97 Tryz.isAgg97 Tryz.sizeOf97 Tryz.zeroValue97 rfl (fun w=>by kernel_rfl)⟩
def amC:{i:aO//aT (Tryz.prog) 98 i}:=⟨_,bQ [.raw .nilFunc] Tryz.underlying98 Tryz.isAgg98 Tryz.sizeOf98 Tryz.zeroValue98 rfl⟩
def amD:{i:aO//aT (Tryz.prog) 99 i}:=⟨_,bQ [.raw .nilFunc] Tryz.underlying99 Tryz.isAgg99 Tryz.sizeOf99 Tryz.zeroValue99 rfl⟩
def ak9:{i:aO//aT (Tryz.prog) 102 i}:=⟨_,jP [(0,1),(1,1),(2,1),(3,1),(4,1),(5,1),(6,1),(7,1),(8,1),(9,1)] [.str [],.str [],.str [],.raw (.int .i64 0),.raw (.int .i64 0),.str [],.str [],.str [],.str [],.str []] Tryz.underlying102 Tryz.isAgg102 Tryz.sizeOf102 Tryz.zeroValue102 rfl (fun w=>by kernel_rfl)⟩
def ak_:{i:aO//aT (Tryz.prog) 103 i}:=⟨_,bQ [.raw .nilFunc] Tryz.underlying103 Tryz.isAgg103 Tryz.sizeOf103 Tryz.zeroValue103 rfl⟩
def ak':{i:aO//aT (Tryz.prog) 106 i}:=⟨_,bQ [.raw .nilFunc] Tryz.underlying106 Tryz.isAgg106 Tryz.sizeOf106 Tryz.zeroValue106 rfl⟩
def ala:{i:aO//aT (Tryz.prog) 109 i}:=⟨_,jP [(0,1),(1,1),(2,1),(3,1),(4,1),(5,1)] [.str [],.str [],.str [],.str [],.str [],.str []] Tryz.underlying109 Tryz.isAgg109 Tryz.sizeOf109 Tryz.zeroValue109 rfl (fun w=>by kernel_rfl)⟩
def alb:{i:aO//aT (Tryz.prog) 110 i}:=⟨_,bQ [.raw .nilFunc] Tryz.underlying110 Tryz.isAgg110 Tryz.sizeOf110 Tryz.zeroValue110 rfl⟩
def alc:{i:aO//aT (Tryz.prog) 111 i}:=⟨_,bQ [.raw .nilFunc] Tryz.underlying111 Tryz.isAgg111 Tryz.sizeOf111 Tryz.zeroValue111 rfl⟩
def ald:{i:aO//aT (Tryz.prog) 113 i}:=⟨_,bQ [.raw (.slice none 0 0)] Tryz.underlying113 Tryz.isAgg113 Tryz.sizeOf113 Tryz.zeroValue113 rfl⟩
def ale:{i:aO//aT (Tryz.prog) 115 i}:=⟨_,jP [(0,1),(1,1),(2,1),(3,1),(4,1),(5,1),(6,1)] [.raw (.int .i64 0),.raw (.int .i64 0),.str [],.str [],.str [],.str [],.raw (.slice none 0 0)] Tryz.underlying115 Tryz.isAgg115 Tryz.sizeOf115 Tryz.zeroValue115 rfl (fun w=>by kernel_rfl)⟩
def alf:{i:aO//aT (Tryz.prog) 116 i}:=⟨_,bQ [.raw .nilFunc] Tryz.underlying116 Tryz.isAgg116 Tryz.sizeOf116 Tryz.zeroValue116 rfl⟩
def alg:{i:aO//aT (Tryz.prog) 117 i}:=⟨_,bQ [.raw .nilFunc] Tryz.underlying117 Tryz.isAgg117 Tryz.sizeOf117 Tryz.zeroValue117 rfl⟩
def alh:{i:aO//aT (Tryz.prog) 120 i}:=⟨_,jP [(0,1),(1,1)] [.str [],.raw (.int .i64 0)] Tryz.underlying120 Tryz.isAgg120 Tryz.sizeOf120 Tryz.zeroValue120 rfl (fun w=>by kernel_rfl)⟩
def ali:{i:aO//aT (Tryz.prog) 121 i}:=⟨_,bQ [.raw .nilFunc] Tryz.underlying121 Tryz.isAgg121 Tryz.sizeOf121 Tryz.zeroValue121 rfl⟩
def alj:{i:aO//aT (Tryz.prog) 122 i}:=⟨_,bQ [.raw .nilFunc] Tryz.underlying122 Tryz.isAgg122 Tryz.sizeOf122 Tryz.zeroValue122 rfl⟩
def alk:{i:aO//aT (Tryz.prog) 124 i}:=⟨_,bQ [.raw .nilFunc] Tryz.underlying124 Tryz.isAgg124 Tryz.sizeOf124 Tryz.zeroValue124 rfl⟩
def alm:{i:aO//aT (Tryz.prog) 125 i}:=⟨_,bQ [.raw .nilFunc] Tryz.underlying125 Tryz.isAgg125 Tryz.sizeOf125 Tryz.zeroValue125 rfl⟩
def aln:{i:aO//aT (Tryz.prog) 138 i}:=⟨_,bQ [.raw .nilFunc] Tryz.underlying138 Tryz.isAgg138 Tryz.sizeOf138 Tryz.zeroValue138 rfl⟩
def alo:{i:aO//aT (Tryz.prog) 144 i}:=⟨_,bQ [.raw .nilFunc] Tryz.underlying144 Tryz.isAgg144 Tryz.sizeOf144 Tryz.zeroValue144 rfl⟩
def alp:{i:aO//aT (Tryz.prog) 146 i}:=⟨_,bQ [.raw .nilFunc] Tryz.underlying146 Tryz.isAgg146 Tryz.sizeOf146 Tryz.zeroValue146 rfl⟩
def alq:{i:aO//aT (Tryz.prog) 149 i}:=⟨_,bQ [.raw .nilFunc] Tryz.underlying149 Tryz.isAgg149 Tryz.sizeOf149 Tryz.zeroValue149 rfl⟩
def alr:{i:aO//aT (Tryz.prog) 158 i}:=⟨_,bQ [.raw .nilFunc] Tryz.underlying158 Tryz.isAgg158 Tryz.sizeOf158 Tryz.zeroValue158 rfl⟩
def als:{i:aO//aT (Tryz.prog) 162 i}:=⟨_,jP [(0,1),(1,1)] [.str [],.str []] Tryz.underlying162 Tryz.isAgg162 Tryz.sizeOf162 Tryz.zeroValue162 rfl (fun w=>by kernel_rfl)⟩
def alu:{i:aO//aT (Tryz.prog) 165 i}:=⟨_,bQ [.raw .nilFunc] Tryz.underlying165 Tryz.isAgg165 Tryz.sizeOf165 Tryz.zeroValue165 rfl⟩
def alv:{i:aO//aT (Tryz.prog) 169 i}:=⟨_,bQ [.raw (.bool false),.raw (.bool false),.raw (.bool false),.raw (.bool false),.raw (.bool false),.raw (.bool false),.raw (.bool false),.raw (.bool false),.raw (.bool false),.raw (.bool false),.raw (.bool false),.raw (.bool false),.raw (.bool false)] Tryz.underlying169 Tryz.isAgg169 Tryz.sizeOf169 Tryz.zeroValue169 rfl⟩
def alw:{i:aO//aT (Tryz.prog) 170 i}:=⟨_,bQ [.raw (.map none)] Tryz.underlying170 Tryz.isAgg170 Tryz.sizeOf170 Tryz.zeroValue170 rfl⟩
def alx:{i:aO//aT (Tryz.prog) 172 i}:=⟨_,jP [(0,1),(1,1),(2,13),(15,1),(16,1)] [.str [],.raw (.int .i64 0),.raw (.bool false),.raw (.bool false),.raw (.bool false),.raw (.bool false),.raw (.bool false),.raw (.bool false),.raw (.bool false),.raw (.bool false),.raw (.bool false),.raw (.bool false),.raw (.bool false),.raw (.bool false),.raw (.bool false),.raw (.map none),.raw (.bool false)] Tryz.underlying172 Tryz.isAgg172 Tryz.sizeOf172 Tryz.zeroValue172 rfl (fun w=>by kernel_rfl)⟩
def aly:{i:aO//aT (Tryz.prog) 179 i}:=⟨_,bQ [.raw (.map none)] Tryz.underlying179 Tryz.isAgg179 Tryz.sizeOf179 Tryz.zeroValue179 rfl⟩
def alz:{i:aO//aT (Tryz.prog) 188 i}:=⟨_,bQ [.raw (.slice none 0 0)] Tryz.underlying188 Tryz.isAgg188 Tryz.sizeOf188 Tryz.zeroValue188 rfl⟩
def alA:{i:aO//aT (Tryz.prog) 190 i}:=⟨_,jP [(0,1),(1,1)] [.raw (.bool false),.raw (.slice none 0 0)] Tryz.underlying190 Tryz.isAgg190 Tryz.sizeOf190 Tryz.zeroValue190 rfl (fun w=>by kernel_rfl)⟩
def alC:{i:aO//aT (Tryz.prog) 210 i}:=⟨_,jP [(0,1),(1,1)] [.raw (.bool false),.raw (.slice none 0 0)] Tryz.underlying210 Tryz.isAgg210 Tryz.sizeOf210 Tryz.zeroValue210 rfl (fun w=>by kernel_rfl)⟩
def alD:{i:aO//aT (Tryz.prog) 214 i}:=⟨_,bQ [.raw .nilFunc] Tryz.underlying214 Tryz.isAgg214 Tryz.sizeOf214 Tryz.zeroValue214 rfl⟩
def alE:{i:aO//aT (Tryz.prog) 217 i}:=⟨_,bQ [.raw (.slice none 0 0)] Tryz.underlying217 Tryz.isAgg217 Tryz.sizeOf217 Tryz.zeroValue217 rfl⟩
def alG:{i:aO//aT (Tryz.prog) 220 i}:=⟨_,jP [(0,1),(1,1)] [.str [],.str []] Tryz.underlying220 Tryz.isAgg220 Tryz.sizeOf220 Tryz.zeroValue220 rfl (fun w=>by kernel_rfl)⟩
def alH:{i:aO//aT (Tryz.prog) 223 i}:=⟨_,jP [(0,1),(1,2),(3,2),(5,2)] [.str [],.str [],.str [],.str [],.str [],.str [],.str []] Tryz.underlying223 Tryz.isAgg223 Tryz.sizeOf223 Tryz.zeroValue223 rfl (fun w=>by kernel_rfl)⟩
def alI:{i:aO//aT (Tryz.prog) 224 i}:=⟨_,bQ [.raw .nilFunc] Tryz.underlying224 Tryz.isAgg224 Tryz.sizeOf224 Tryz.zeroValue224 rfl⟩
def alJ:{i:aO//aT (Tryz.prog) 225 i}:=⟨_,bQ [.raw .nilFunc] Tryz.underlying225 Tryz.isAgg225 Tryz.sizeOf225 Tryz.zeroValue225 rfl⟩
def alK:{i:aO//aT (Tryz.prog) 230 i}:=⟨_,bQ [.raw .nilFunc] Tryz.underlying230 Tryz.isAgg230 Tryz.sizeOf230 Tryz.zeroValue230 rfl⟩
def alM:{i:aO//aT (Tryz.prog) 243 i}:=⟨_,bQ [.raw (.int .u64 0)] Tryz.underlying243 Tryz.isAgg243 Tryz.sizeOf243 Tryz.zeroValue243 rfl⟩
def alQ:{i:aO//aT (Tryz.prog) 275 i}:=⟨_,jP [(0,1),(1,1)] [.raw (.bool false),.raw .nilFunc] Tryz.underlying275 Tryz.isAgg275 Tryz.sizeOf275 Tryz.zeroValue275 rfl (fun w=>by kernel_rfl)⟩
def alR:{i:aO//aT (Tryz.prog) 276 i}:=⟨_,bQ [.raw (.bool false),.raw .nilFunc,.raw (.bool false),.raw .nilFunc,.raw (.bool false),.raw .nilFunc,.raw (.bool false),.raw .nilFunc,.raw (.bool false),.raw .nilFunc,.raw (.bool false),.raw .nilFunc] Tryz.underlying276 Tryz.isAgg276 Tryz.sizeOf276 Tryz.zeroValue276 rfl⟩
def alS:{i:aO//aT (Tryz.prog) 278 i}:=⟨_,bQ [.raw (.slice none 0 0)] Tryz.underlying278 Tryz.isAgg278 Tryz.sizeOf278 Tryz.zeroValue278 rfl⟩
def alU:{i:aO//aT (Tryz.prog) 280 i}:=⟨_,bQ [.raw .nilFunc] Tryz.underlying280 Tryz.isAgg280 Tryz.sizeOf280 Tryz.zeroValue280 rfl⟩
def alV:{i:aO//aT (Tryz.prog) 286 i}:=⟨_,bQ [.raw .nilFunc] Tryz.underlying286 Tryz.isAgg286 Tryz.sizeOf286 Tryz.zeroValue286 rfl⟩
def alW:{i:aO//aT (Tryz.prog) 287 i}:=⟨_,bQ [.str [],.str [],.str [],.str [],.str [],.str [],.str [],.str [],.str [],.str [],.str [],.str [],.str [],.str [],.str [],.str [],.str [],.str [],.str [],.str [],.str [],.str [],.str [],.str [],.str [],.str []] Tryz.underlying287 Tryz.isAgg287 Tryz.sizeOf287 Tryz.zeroValue287 rfl⟩
def alY:{i:aO//aT (Tryz.prog) 291 i}:=⟨_,bQ [.raw (.int .u64 0)] Tryz.underlying291 Tryz.isAgg291 Tryz.sizeOf291 Tryz.zeroValue291 rfl⟩
def alZ:{i:aO//aT (Tryz.prog) 304 i}:=⟨_,bQ [.raw .nilFunc] Tryz.underlying304 Tryz.isAgg304 Tryz.sizeOf304 Tryz.zeroValue304 rfl⟩
def al3:{i:aO//aT (Tryz.prog) 351 i}:=⟨_,bQ [.raw (.int .i64 0),.raw (.int .i64 0),.raw (.int .i64 0),.raw (.int .i64 0),.raw (.int .i64 0),.raw (.int .i64 0)] Tryz.underlying351 Tryz.isAgg351 Tryz.sizeOf351 Tryz.zeroValue351 rfl⟩
def al4:{i:aO//aT (Tryz.prog) 354 i}:=⟨_,bQ [.raw .nilFunc] Tryz.underlying354 Tryz.isAgg354 Tryz.sizeOf354 Tryz.zeroValue354 rfl⟩
def al5:{i:aO//aT (Tryz.prog) 355 i}:=⟨_,bQ [.raw .nilFunc] Tryz.underlying355 Tryz.isAgg355 Tryz.sizeOf355 Tryz.zeroValue355 rfl⟩
def al6:{i:aO//aT (Tryz.prog) 356 i}:=⟨_,bQ [.raw .nilFunc,.raw .nilFunc,.raw .nilFunc,.raw .nilFunc] Tryz.underlying356 Tryz.isAgg356 Tryz.sizeOf356 Tryz.zeroValue356 rfl⟩
def al':{i:aO//aT (Tryz.prog) 423 i}:=⟨_,jP [(0,1),(1,1)] [.str [],.raw (.int .i64 0)] Tryz.underlying423 Tryz.isAgg423 Tryz.sizeOf423 Tryz.zeroValue423 rfl (fun w=>by kernel_rfl)⟩
def Tz:wH Tryz.prog:=.node 102 ak9 (.node 50 ame (.node 29 alX (.node 22 alF (.node 5 tk5 (.node 3 tk3 (.node 2 tk2 .leaf .leaf) (.node 4 tk4 .leaf .leaf)) (.node 21 alB (.node 9 tk9 .leaf .leaf) .leaf)) (.node 26 alO (.node 25 alN (.node 24 alL .leaf .leaf) .leaf) (.node 28 alT (.node 27 alP .leaf .leaf) .leaf))) (.node 40 al9 (.node 34 al2 (.node 32 al1 (.node 31 al0 .leaf .leaf) .leaf) (.node 39 al8 (.node 37 al7 .leaf .leaf) .leaf)) (.node 45 amb (.node 43 ama (.node 42 al_ .leaf .leaf) .leaf) (.node 49 amd (.node 48 amc .leaf .leaf) .leaf)))) (.node 77 amr (.node 67 aml (.node 64 ami (.node 53 amg (.node 51 amf .leaf .leaf) (.node 63 amh .leaf .leaf)) (.node 66 amk (.node 65 amj .leaf .leaf) .leaf)) (.node 72 amo (.node 70 amn (.node 68 amm .leaf .leaf) .leaf) (.node 75 amq (.node 73 amp .leaf .leaf) .leaf))) (.node 88 amy (.node 81 amv (.node 79 amu (.node 78 ams .leaf .leaf) .leaf) (.node 86 amx (.node 82 amw .leaf .leaf) .leaf)) (.node 97 amB (.node 93 amA (.node 91 amz .leaf .leaf) .leaf) (.node 99 amD (.node 98 amC .leaf .leaf) .leaf))))) (.node 179 aly (.node 124 alk (.node 115 ale (.node 110 alb (.node 106 ak' (.node 103 ak_ .leaf .leaf) (.node 109 ala .leaf .leaf)) (.node 113 ald (.node 111 alc .leaf .leaf) .leaf)) (.node 120 alh (.node 117 alg (.node 116 alf .leaf .leaf) .leaf) (.node 122 alj (.node 121 ali .leaf .leaf) .leaf))) (.node 158 alr (.node 144 alo (.node 138 aln (.node 125 alm .leaf .leaf) .leaf) (.node 149 alq (.node 146 alp .leaf .leaf) .leaf)) (.node 169 alv (.node 165 alu (.node 162 als .leaf .leaf) .leaf) (.node 172 alx (.node 170 alw .leaf .leaf) .leaf)))) (.node 276 alR (.node 223 alH (.node 214 alD (.node 190 alA (.node 188 alz .leaf .leaf) (.node 210 alC .leaf .leaf)) (.node 220 alG (.node 217 alE .leaf .leaf) .leaf)) (.node 230 alK (.node 225 alJ (.node 224 alI .leaf .leaf) .leaf) (.node 275 alQ (.node 243 alM .leaf .leaf) .leaf))) (.node 304 alZ (.node 286 alV (.node 280 alU (.node 278 alS .leaf .leaf) .leaf) (.node 291 alY (.node 287 alW .leaf .leaf) .leaf)) (.node 355 al5 (.node 354 al4 (.node 351 al3 .leaf .leaf) .leaf) (.node 423 al' (.node 356 al6 .leaf .leaf) .leaf)))))
theorem amZ[bT]:nW Tryz.prog Tz.get:=⟨Tz.ok,mS⟩
theorem go[bT]{F:Fr}{cs:List Code}{Q:Exit→Env→aa→Prop}{env:Env}{J:aa}(stop:List Nat)(h:i_ Tz.get Tryz.prog F stop Q 3000 (.code cs [] env J)):U Tryz.prog F cs Q env J:=abU amZ 3000 cs Q env J h
open Go.Proofs.Tryz
end Go.T
namespace Go.T
open Go
theorem I8{s:ae}{n:Int}(hn:n=0)(h:0<s.length):s[n.toNat]?=some (s.headD 0):=by
 subst hn;cases s<;>simp_all
theorem wy{s:ae}(h:0<s.length)(h':(s.headD 0).toNat=45):dZ s=(s.drop 1,true):=by
 cases s with
 |nil=>simp at h
 |cons c r=>
  have:c=45:=UInt8.toNat_inj.1 (by simpa using h');subst this;rfl
theorem uU{s:ae}(h:¬(0<s.length∧(s.headD 0).toNat=45)):dZ s=(s,false):=by
 cases s with
 |nil=>rfl
 |cons c r=>
  have h':c≠45:=by
   rintro rfl;simp at h
  unfold dZ;split
  ·rename_i o_;simp at o_;exact absurd o_.1 h'
  ·rfl
theorem Bg{s:ae}(h:0<s.length)(h':(s.headD 0).toNat=48):ff s=ff (s.drop 1):=by
 cases s with
 |nil=>simp at h
 |cons c r=>
  have:c=48:=UInt8.toNat_inj.1 (by simpa using h');subst this;simp[ff]
theorem w5{s:ae}(h:¬(0<s.length∧(s.headD 0).toNat=48)):ff s=s:=by
 cases s with
 |nil=>rfl
 |cons c r=>
  have h':c≠48:=by
   rintro rfl;simp at h
  unfold ff;split
  ·rename_i o_;simp at o_;exact absurd o_.1 h'
  ·rfl
theorem Ea(s:ae):(ff s).length≤s.length:=by
 induction s with
 |nil=>simp[ff]
 |cons c r ih=>
  unfold ff;split
  ·rename_i o_;simp at o_;rw[←o_.2];simp;omega
  ·exact Nat.le_refl _
theorem Gu(s:ae):(dZ s).1.length≤s.length:=by
 unfold dZ;split<;>simp
theorem m_(s:ae):(digits s).1.length≤s.length:=by
 unfold digits;split
 ·exact Nat.le_trans (Ea _) (Gu s)
 ·simp
theorem aku(s:ae)(h:(dZ s).2=true):(dZ s).1.length+1=s.length:=by
 unfold dZ at*;split at h<;>simp_all
theorem Z2(s:ae)(p:UInt8→Bool)(h:s.all p=true):(ff s).all p=true:=by
 induction s with
 |nil=>simpa[ff]using h
 |cons c r ih=>
  unfold ff;split
  ·rename_i o_;simp at o_;rw[←o_.2];exact ih (by simp at h⊢;exact h.2)
  ·exact h
theorem pM(s:ae):(digits s).1.all dh=true:=by
 unfold digits;split
 ·rename_i h;exact Z2 _ _ h
 ·rfl
theorem Xw(s:ae):(canon s).length≤s.length:=by
 have h1:=m_ s;unfold canon;split
 ·rename_i h;have:(dZ s).2=true:=by
   unfold digits at h;split at h<;>simp_all
  have h2:=aku s this;have h3:(digits s).1.length≤(dZ s).1.length:=by
   unfold digits;split
   ·exact Ea _
   ·simp
  simp;omega
 ·exact h1
theorem N7(s:ae)(h:(digits s).2=true):(digits s).1.length+1≤s.length:=by
 have:=Xw s;unfold canon at this;rw[if_pos h]at this;simpa using this
theorem HP(s:ae):(s.drop 1).take (s.length-1)=s.drop 1:=List.take_of_length_le zS
theorem N5{s cur:ae}(hd:(dZ s).1.all dh=true)(hx:ff cur=ff (dZ s).1)(h:(cur.length:Int)≤0∨¬((cur.headD 0).toNat:Int)=48):cur=(digits s).1:=by
 unfold digits;rw[if_pos hd,←hx];exact(w5 zO).symm
theorem N6{s cur:ae}(hd:(dZ s).1.all dh=true)(hx:ff cur=ff (dZ s).1)(h:(cur.length:Int)≤0∨¬((cur.headD 0).toNat:Int)=48):((dZ s).2&&decide ((0:Int)<cur.length))=(digits s).2:=by
 unfold digits;rw[if_pos hd,←hx,w5 zO];cases cur<;>simp<;>omega
theorem D6{s pre rest:ae}{x:UInt8}(hx:(dZ s).1=pre++x::rest)(h:(x.toNat:Int)<48∨57<(x.toNat:Int)):digits s=([],false):=by
 unfold digits;rw[if_neg];rw[hx];simp only[List.all_append,List.all_cons,Bool.and_eq_true,not_and];intro _ h2;simp[dh]at h2;omega
theorem tp{α:Type}{p:List α→Prop}(h0:p [])(h1:∀l a,p l→p (l++[a]))(l:List α):p l:=by
  rw[←List.reverse_reverse l];induction l.reverse with
  |nil=>simpa
  |cons a l ih=>simpa using h1 _ a ih
theorem uA(d:ae)(c:UInt8):natVal (d++[c])=10*natVal d+(c.toNat-48):=by simp[natVal]
theorem s8:∀(d:ae),d.all dh=true→natVal d<10^d.length:=by
  refine tp (by simp[natVal]) ?_;intro d c ih h;simp only[List.all_append,List.all_cons,List.all_nil,Bool.and_true,Bool.and_eq_true]at h;have:=ih h.1;have hc:c.toNat-48≤9:=by have:=h.2;simp[dh]at this;omega
  rw[uA,List.length_append,List.length_singleton,Nat.pow_succ];omega
theorem Tb{d:ae}(h:d.all dh=true)(hl:d.length≤17):natVal d<100000000000000000:=by
  have h1:=s8 d h;have h2:10^d.length≤10^17:=Nat.pow_le_pow_right zO hl;omega
def iP(n:Nat):ae:=if h:n=0 then[]else iP (n/10)++[UInt8.ofNat (48+n%10)]
decreasing_by omega
def ofInt(n:Int):ae:=if n<0 then 45::iP n.natAbs else iP n.natAbs
def ma(a b:ae):ae:=ofInt (val a+val b)
theorem nM:iP 0=[]:=by rw[iP];simp
theorem uz{n:Nat}(h:n≠0):iP n=iP (n/10)++[UInt8.ofNat (48+n%10)]:=by rw[iP];simp[h]
theorem FG(k:Nat):∀n,n<10^k→(iP n).length≤k:=by
  induction k with
  |zero=>
      intro n h;obtain rfl:n=0:=by omega
      simp[nM]
  |succ k ih=>
    intro n h;by_cases e:n=0
    · subst e;simp[nM]
    · rw[uz e]
      have:=ih (n/10) (by rw[Nat.pow_succ]at h;omega);simp;omega
theorem S7{c:Int}(h:c≠0):iP c.natAbs=iP (c.tdiv 10).natAbs++[UInt8.ofNat (48+c.natAbs%10)]:=by
  rw[uz zO,Int.natAbs_tdiv];rfl
theorem amE(c:Int):(c.tmod 10).natAbs=c.natAbs%10:=by rw[Int.natAbs_tmod];rfl
theorem akW(c:Int):(c.tdiv 10).natAbs=c.natAbs/10:=by rw[Int.natAbs_tdiv];rfl
theorem Mi{n:Int}(h1:-2147483648≤n)(h2:n≤2147483647):IntKind.i32.wrap n=n:=IntWalk.i32_in n ⟨h1,h2⟩
theorem FF(n:Nat):(iP n).all dh=true:=by
 induction n using Nat.strongRecOn with
 |_ n ih=>
  by_cases e:n=0
  ·subst e;simp[nM]
  ·rw[uz e,List.all_append,ih (n/10) zO];have:(48+n%10)%256=48+n%10:=Nat.mod_eq_of_lt zO;simp[dh,this];omega
theorem S9(n:Nat):natVal (iP n)=n:=by
 induction n using Nat.strongRecOn with
 |_ n ih=>
  by_cases e:n=0
  ·subst e;simp[nM,natVal]
  ·rw[uz e,uA,ih (n/10) zO];have:(48+n%10)%256=48+n%10:=Nat.mod_eq_of_lt zO;simp[this];omega
theorem FH{n:Nat}:iP n=[]↔n=0:=by
 constructor
 ·intro h;by_cases e:n=0
  ·exact e
  ·rw[uz e]at h;simp at h
 ·rintro rfl;exact nM
theorem S0(n:Nat):∀c r,iP n=c::r→c.toNat≠48:=by
 induction n using Nat.strongRecOn with
 |_ n ih=>
  intro c r h;by_cases e:n=0
  ·subst e;simp[nM]at h
  ·rw[uz e]at h;by_cases e2:n/10=0
   ·rw[e2,nM]at h;simp only[List.nil_append,List.cons.injEq]at h;rw[←h.1];have:(48+n%10)%256=48+n%10:=Nat.mod_eq_of_lt zO;simp[this];omega
   ·cases hd:iP (n/10)with
    |nil=>exact absurd (FH.1 hd) e2
    |cons c' r'=>
     rw[hd]at h;simp only[List.cons_append,List.cons.injEq]at h;rw[←h.1];exact ih (n/10) zO c' r' hd
theorem Oh(n:Nat):ff (iP n)=iP n:=by
 apply w5;intro⟨h1,h2⟩;cases hd:iP n with
 |nil=>simp[hd]at h1
 |cons c r=>rw[hd]at h2;exact S0 n c r hd (by simpa using h2)
theorem akt{s:ae}(h:s.all dh=true):dZ s=(s,false):=by
 apply uU;intro⟨h1,h2⟩;cases s with
 |nil=>simp at h1
 |cons c r=>
  simp only[List.all_cons,Bool.and_eq_true,dh,decide_eq_true_eq]at h;simp at h2;omega
theorem Zz(n:Int):digits (ofInt n)=(iP n.natAbs,decide (n<0)):=by
 unfold ofInt;split
 ·rename_i h;have:dZ (45::iP n.natAbs)=(iP n.natAbs,true):=rfl;unfold digits;rw[this];simp only[FF,if_true,Oh,h,decide_true,Bool.true_and];have:iP n.natAbs≠[]:=by rw[ne_eq,FH];omega
  simp[this]
 ·rename_i h;unfold digits;rw[akt (FF _)];simp[FF,Oh,h]
theorem q8(n:Int):val (ofInt n)=n:=by
 unfold val;rw[Zz];simp only[S9,decide_eq_true_eq];split<;>omega
theorem agN{n:Int}:ofInt n=[]↔n=0:=by
 unfold ofInt;split
 ·simp;omega
 ·rw[FH];omega
theorem agP:ofInt 0=[]:=agN.2 rfl
theorem E9{α β:Type}[Inhabited α]{l pre rest:List α}{n:Int}(f:α→β)(h:l=pre++rest)(h0:0<pre.length)(hn:n=(pre.length:Int)-1):(l.map f)[n.toNat]?=some (f (pre.getLastD default)):=by
 subst h;subst hn;have e:((pre.length:Int)-1).toNat=pre.length-1:=by omega
 rw[e,List.getElem?_map,List.getElem?_append_left zO];have:pre[pre.length-1]?=some (pre.getLastD default):=by
  rw[←List.getLast?_eq_getElem?];cases pre with
  |nil=>simp at h0
  |cons a l=>simp[List.getLast?_cons,List.getLastD_cons,List.getLastD_eq_getLast?]
 rw[this];rfl
def mZ:List dM→List dM→Int
 |a::az,b::bs=>if me a b≠0 then me a b else if kl a.fq b.fq≠0 then kl a.fq b.fq else mZ az bs
 |[],[]=>0
 |[],_=>-1
 |_,[]=>1
def jJ(a b:Entry):Int:=if a.day≠b.day then(if a.day<b.day then -1 else 1)else if dm a.fe b.fe≠0 then dm a.fe b.fe else mZ a.lines b.lines
def opposite(e:Entry):Entry:={e with lines:=e.lines.map fun l=>{l with fq:=agr l.fq}}
@[reducible] def bD(m:List Nat):List (List D):=m.map fun(n:Nat)=>[.raw (.int .u64 (n:Int))]
@[reducible] def bc(m:List Nat):D:=.snap 1 false (bD m)
@[reducible] def pN(neg:Bool)(m:List Nat):List D:=[.b neg,bc m]
theorem Q4{α β:Type}(f:α→β)(i:List α)(x:α){n:Int}(hn:n=((i++[x]).map f).length-1):((i++[x]).map f)[n.toNat]?=some (f x):=by
 have:n.toNat=i.length:=by rw[hn];simp
 rw[this];simp
theorem x7{env:Env}{x:Operand}{k:IntKind}{n m:Int}(h:env.op x=some (.raw (.int k n)))(e:n=m):env.op x=some (.raw (.int k m)):=by rw[h,e]
def gB:Nat:=1000000000
def ao:List Nat→Nat
 |[]=>0
 |x::r=>x+gB*ao r
def aU(m:List Nat):Prop:=∀x∈m,x<gB
def bp(m:List Nat):List Nat:=(m.reverse.dropWhile (· ==0)).reverse
theorem nS{α:Type}(l:List α):l=[]∨∃i x,l=i++[x]:=by
 rcases List.eq_nil_or_concat l with h|⟨i,x,h⟩
 ·exact .inl h
 ·exact .inr ⟨i,x,by rw[h,List.concat_eq_append]⟩
theorem tI(i:List Nat):bp (i++[0])=bp i:=by simp[bp]
theorem yS(i:List Nat){x:Nat}(h:x≠0):bp (i++[x])=i++[x]:=by simp[bp,h]
theorem vX(a b:List Nat):ao (a++b)=ao a+gB^a.length*ao b:=by
 induction a with
 |nil=>simp[ao]
 |cons x a ih=>simp only[List.cons_append,ao,ih,List.length_cons,Nat.pow_succ];rw[Nat.mul_add,Nat.mul_comm (gB^a.length) gB,Nat.mul_assoc];omega
theorem uv{m:List Nat}(h:aU m):ao m<gB^m.length:=by
 induction m with
 |nil=>simp[ao]
 |cons x m ih=>
  have h1:=ih (fun y hy=>h y (List.mem_cons_of_mem _ hy));have h2:=h x List.mem_cons_self;simp only[ao,List.length_cons,Nat.pow_succ];have:gB*(ao m+1)≤gB*gB^m.length:=Nat.mul_le_mul_left _ h1;rw[Nat.mul_comm (gB^m.length)];rw[Nat.mul_add]at this;omega
theorem D3(m:List Nat):ao (bp m)=ao m:=by
 induction m using tp with
 |h0=>rfl
 |h1 i x ih=>
  by_cases h:x=0
  ·subst h;rw[tI,ih,vX];simp[ao]
  ·rw[yS i h]
theorem YZ(m:List Nat):∀x∈bp m,x∈m:=by
 intro x hx;unfold bp at hx;rw[List.mem_reverse]at hx;have:=(List.dropWhile_sublist _).mem hx;simpa using this
theorem yR{m:List Nat}(h:aU m):aU (bp m):=fun x hx=>h x (YZ m x hx)
theorem vg(m:List Nat):(bp m).length≤m.length:=by
 unfold bp;rw[List.length_reverse];exact Nat.le_trans (List.dropWhile_sublist _).length_le zS
def gu(s:ae):List Nat:=if h:s.length=0 then[]else natVal (s.drop (s.length-9))::gu (s.take (s.length-9))
termination_by s.length
decreasing_by simp;omega
theorem tX:gu []=[]:=by rw[gu];simp
theorem zj{s:ae}(h:s.length≠0):gu s=natVal (s.drop (s.length-9))::gu (s.take (s.length-9)):=by rw[gu,dif_neg h]
theorem v7(a b:ae):natVal (a++b)=natVal a*10^b.length+natVal b:=by
 induction b using tp with
 |h0=>simp[natVal]
 |h1 i x ih=>
   rw[←List.append_assoc,uA,ih,uA,List.length_append,List.length_singleton,Nat.pow_succ,Nat.mul_add,←Nat.mul_assoc];have:10*natVal a*10^i.length=natVal a*(10^i.length*10):=by rw[Nat.mul_comm 10 (natVal a),Nat.mul_assoc,Nat.mul_comm 10]
   omega
theorem ru(s:ae):(gu s).length≤s.length:=by
 induction h:s.length using Nat.strongRecOn generalizing s with
 |_ n ih=>
  by_cases h0:s.length=0
  ·have:s=[]:=List.length_eq_zero_iff.1 h0;subst this;rw[tX];simp
  ·rw[zj h0,List.length_cons];have:=ih (s.take (s.length-9)).length zQ (s.take (s.length-9)) rfl;simp at this⊢;omega
theorem IF(s:ae)(hd:s.all dh=true):aU (gu s)∧ao (gu s)=natVal s:=by
 induction h:s.length using Nat.strongRecOn generalizing s with
 |_ n ih=>
  by_cases h0:s.length=0
  ·have:s=[]:=List.length_eq_zero_iff.1 h0;subst this;rw[tX];exact⟨fun x hx=>absurd hx zS,rfl⟩
  ·rw[zj h0];have hs:s=s.take (s.length-9)++s.drop (s.length-9):=(List.take_append_drop ..).symm;have Qg:(s.take (s.length-9)).all dh=true∧(s.drop (s.length-9)).all dh=true:=by
    rw[hs,List.all_append,Bool.and_eq_true]at hd;exact hd
   obtain⟨h1,h2⟩:=ih (s.take (s.length-9)).length zQ (s.take (s.length-9)) Qg.1 rfl;have hl:(s.drop (s.length-9)).length≤9:=by simp;omega
   have h3:=s8 _ Qg.2;have h4:10^(s.drop (s.length-9)).length≤10^9:=Nat.pow_le_pow_right zO hl;have h5:natVal (s.drop (s.length-9))<gB:=by unfold gB;omega
   refine⟨fun x hx=>?_,?_⟩
   ·rcases List.mem_cons.1 hx with rfl|hx
    ·exact h5
    ·exact h1 x hx
   ·simp only[ao,h2];conv=>rhs;rw[hs,v7]
    by_cases h9:s.length≤9
    ·have:s.length-9=0:=by omega
     rw[this];simp[natVal]
    ·have:(s.drop (s.length-9)).length=9:=by simp;omega
     rw[this,Nat.mul_comm (natVal (s.take (s.length-9)))];unfold gB;omega
end Go.T
namespace Go.Proofs
open Go.Shelf
def Tryz.aeW:Go.Shelf.Ren:=⟨fun|161=>202|231=>231|227=>233|233=>234|235=>236|228=>290|197=>291|151=>292|260=>322|152=>323|137=>335|119=>336|224=>337|225=>338|217=>339|266=>343|n=>n,fun|9=>9|4=>4|3=>3|5=>5|117=>312|116=>311|0=>0|124=>315|105=>360|21=>21|119=>398|46=>291|139=>401|138=>400|n=>n,fun|3=>4|4=>5|n=>n⟩
theorem Tryz.aeV:Go.Proofs.Lays.n161 Tryz.prog Tryz.aeW:={
 mixed:=by kernel_rfl
 f119:=Tryz.func336.trans (congrArg some (by kernel_rfl))
 f137:=Tryz.func335.trans (congrArg some (by kernel_rfl))
 f151:=Tryz.func292.trans (congrArg some (by kernel_rfl))
 f152:=Tryz.func323.trans (congrArg some (by kernel_rfl))
 f161:=Tryz.func202.trans (congrArg some (by kernel_rfl))
 f197:=Tryz.func291.trans (congrArg some (by kernel_rfl))
 f217:=Tryz.func339.trans (congrArg some (by kernel_rfl))
 f224:=Tryz.func337.trans (congrArg some (by kernel_rfl))
 f225:=Tryz.func338.trans (congrArg some (by kernel_rfl))
 f227:=Tryz.func233.trans (congrArg some (by kernel_rfl))
 f228:=Tryz.func290.trans (congrArg some (by kernel_rfl))
 f231:=Tryz.func231.trans (congrArg some (by kernel_rfl))
 f233:=Tryz.func234.trans (congrArg some (by kernel_rfl))
 f235:=Tryz.func236.trans (congrArg some (by kernel_rfl))
 f260:=Tryz.func322.trans (congrArg some (by kernel_rfl))
 f266:=Tryz.func343.trans (congrArg some (by kernel_rfl))
 t0:=Tryz.underlying0
 a0:=Tryz.isAgg0
 z0:=Tryz.sizeOf0
 v0:=Tryz.zeroValue0
 t3:=Tryz.underlying3
 a3:=Tryz.isAgg3
 z3:=Tryz.sizeOf3
 v3:=Tryz.zeroValue3
 t4:=Tryz.underlying4
 a4:=Tryz.isAgg4
 z4:=Tryz.sizeOf4
 v4:=Tryz.zeroValue4
 t5:=Tryz.underlying5
 a5:=Tryz.isAgg5
 z5:=Tryz.sizeOf5
 v5:=Tryz.zeroValue5
 t9:=Tryz.underlying9
 a9:=Tryz.isAgg9
 z9:=Tryz.sizeOf9
 v9:=Tryz.zeroValue9
 t21:=Tryz.underlying21
 a21:=Tryz.isAgg21
 z21:=Tryz.sizeOf21
 v21:=Tryz.zeroValue21
 t46:=Tryz.underlying291
 a46:=Tryz.isAgg291
 z46:=Tryz.sizeOf291
 v46:=Tryz.zeroValue291
 t105:=Tryz.underlying360
 a105:=Tryz.isAgg360
 z105:=Tryz.sizeOf360
 v105:=Tryz.zeroValue360
 t116:=Tryz.underlying311
 a116:=Tryz.isAgg311
 z116:=Tryz.sizeOf311
 t117:=Tryz.underlying312
 a117:=Tryz.isAgg312
 z117:=Tryz.sizeOf312
 v117:=Tryz.zeroValue312
 t119:=Tryz.underlying398
 a119:=Tryz.isAgg398
 z119:=Tryz.sizeOf398
 t124:=Tryz.underlying315
 a124:=Tryz.isAgg315
 z124:=Tryz.sizeOf315
 v124:=Tryz.zeroValue315
 t138:=Tryz.underlying400
 a138:=Tryz.isAgg400
 z138:=Tryz.sizeOf400
 v138:=Tryz.zeroValue400
 t139:=Tryz.underlying401
 a139:=Tryz.isAgg401
 z139:=Tryz.sizeOf401
 v139:=Tryz.zeroValue401
 g3:=by kernel_rfl
 g4:=by kernel_rfl}
open Go.RowKit in
theorem Tryz.strings_TrimLeft_one(s:ByteArray)(c:UInt8)(hc:c.toNat<128)(w:World):
  Calls Tryz.prog 202 #[.string s,.string ⟨#[c]⟩] w fun e w'=>e=.returned (.string ⟨(Lib.trimLeftB s.data.toList c).toArray⟩)∧w'=w:=Any.strings_TrimLeft_one Tryz.aeV s c hc w
def Tryz.aeU:Go.Shelf.Ren:=⟨fun|160=>192|232=>232|231=>231|227=>233|234=>235|233=>234|236=>237|235=>236|228=>290|271=>293|151=>292|197=>291|120=>324|152=>323|260=>322|137=>335|119=>336|224=>337|225=>338|217=>339|266=>343|n=>n,fun|9=>9|4=>4|3=>3|5=>5|117=>312|116=>311|0=>0|124=>315|21=>21|105=>360|46=>291|119=>398|139=>401|138=>400|n=>n,fun|3=>4|4=>5|n=>n⟩
theorem Tryz.RL:Go.Proofs.Lays.n160 Tryz.prog Tryz.aeU:={
 mixed:=by kernel_rfl
 f119:=Tryz.func336.trans (congrArg some (by kernel_rfl))
 f120:=Tryz.func324.trans (congrArg some (by kernel_rfl))
 f137:=Tryz.func335.trans (congrArg some (by kernel_rfl))
 f151:=Tryz.func292.trans (congrArg some (by kernel_rfl))
 f152:=Tryz.func323.trans (congrArg some (by kernel_rfl))
 f160:=Tryz.func192.trans (congrArg some (by kernel_rfl))
 f197:=Tryz.func291.trans (congrArg some (by kernel_rfl))
 f217:=Tryz.func339.trans (congrArg some (by kernel_rfl))
 f224:=Tryz.func337.trans (congrArg some (by kernel_rfl))
 f225:=Tryz.func338.trans (congrArg some (by kernel_rfl))
 f227:=Tryz.func233.trans (congrArg some (by kernel_rfl))
 f228:=Tryz.func290.trans (congrArg some (by kernel_rfl))
 f231:=Tryz.func231.trans (congrArg some (by kernel_rfl))
 f232:=Tryz.func232.trans (congrArg some (by kernel_rfl))
 f233:=Tryz.func234.trans (congrArg some (by kernel_rfl))
 f234:=Tryz.func235.trans (congrArg some (by kernel_rfl))
 f235:=Tryz.func236.trans (congrArg some (by kernel_rfl))
 f236:=Tryz.func237.trans (congrArg some (by kernel_rfl))
 f260:=Tryz.func322.trans (congrArg some (by kernel_rfl))
 f266:=Tryz.func343.trans (congrArg some (by kernel_rfl))
 f271:=Tryz.func293.trans (congrArg some (by kernel_rfl))
 t0:=Tryz.underlying0
 a0:=Tryz.isAgg0
 z0:=Tryz.sizeOf0
 v0:=Tryz.zeroValue0
 t3:=Tryz.underlying3
 a3:=Tryz.isAgg3
 z3:=Tryz.sizeOf3
 v3:=Tryz.zeroValue3
 t4:=Tryz.underlying4
 a4:=Tryz.isAgg4
 z4:=Tryz.sizeOf4
 v4:=Tryz.zeroValue4
 t5:=Tryz.underlying5
 a5:=Tryz.isAgg5
 z5:=Tryz.sizeOf5
 v5:=Tryz.zeroValue5
 t9:=Tryz.underlying9
 a9:=Tryz.isAgg9
 z9:=Tryz.sizeOf9
 v9:=Tryz.zeroValue9
 t21:=Tryz.underlying21
 a21:=Tryz.isAgg21
 z21:=Tryz.sizeOf21
 v21:=Tryz.zeroValue21
 t46:=Tryz.underlying291
 a46:=Tryz.isAgg291
 z46:=Tryz.sizeOf291
 v46:=Tryz.zeroValue291
 t105:=Tryz.underlying360
 a105:=Tryz.isAgg360
 z105:=Tryz.sizeOf360
 v105:=Tryz.zeroValue360
 t116:=Tryz.underlying311
 a116:=Tryz.isAgg311
 z116:=Tryz.sizeOf311
 t117:=Tryz.underlying312
 a117:=Tryz.isAgg312
 z117:=Tryz.sizeOf312
 v117:=Tryz.zeroValue312
 t119:=Tryz.underlying398
 a119:=Tryz.isAgg398
 z119:=Tryz.sizeOf398
 t124:=Tryz.underlying315
 a124:=Tryz.isAgg315
 z124:=Tryz.sizeOf315
 v124:=Tryz.zeroValue315
 t138:=Tryz.underlying400
 a138:=Tryz.isAgg400
 z138:=Tryz.sizeOf400
 v138:=Tryz.zeroValue400
 t139:=Tryz.underlying401
 a139:=Tryz.isAgg401
 z139:=Tryz.sizeOf401
 v139:=Tryz.zeroValue401
 g3:=by kernel_rfl
 g4:=by kernel_rfl}
def Tryz.aeS:Go.Shelf.Ren:=⟨fun|103=>201|210=>261|206=>276|n=>n,fun|9=>9|4=>4|24=>232|3=>3|n=>n,fun|n=>n⟩
theorem Tryz.aeR:Go.Proofs.Lays.n103 Tryz.prog Tryz.aeS:={
 mixed:=by kernel_rfl
 f103:=Tryz.func201.trans (congrArg some (by kernel_rfl))
 f206:=Tryz.func276.trans (congrArg some (by kernel_rfl))
 f210:=Tryz.func261.trans (congrArg some (by kernel_rfl))
 t3:=Tryz.underlying3
 a3:=Tryz.isAgg3
 z3:=Tryz.sizeOf3
 v3:=Tryz.zeroValue3
 t4:=Tryz.underlying4
 a4:=Tryz.isAgg4
 z4:=Tryz.sizeOf4
 v4:=Tryz.zeroValue4
 t9:=Tryz.underlying9
 a9:=Tryz.isAgg9
 z9:=Tryz.sizeOf9
 v9:=Tryz.zeroValue9
 t24:=Tryz.underlying232
 a24:=Tryz.isAgg232
 z24:=Tryz.sizeOf232
 v24:=Tryz.zeroValue232}
open Go.RowKit in
theorem Tryz.strings_CutPrefix(s p:ByteArray)(w:World):
  Calls Tryz.prog 201 #[.string s,.string p] w fun e w'=>e=.returned (.tuple #[.string ⟨(Lib.trimPrefix s.data.toList p.data.toList).toArray⟩,.bool (Lib.hasPrefix s.data.toList p.data.toList)])∧w'=w:=Any.strings_CutPrefix Tryz.aeR s p w
def Tryz.ae1:Go.Shelf.Ren:=⟨fun|283=>270|n=>n,fun|3=>3|9=>9|4=>4|n=>n,fun|n=>n⟩
theorem Tryz.ae0:Go.Proofs.Lays.n283 Tryz.prog Tryz.ae1:={
 mixed:=by kernel_rfl
 f283:=Tryz.func270.trans (congrArg some (by kernel_rfl))
 t3:=Tryz.underlying3
 a3:=Tryz.isAgg3
 z3:=Tryz.sizeOf3
 v3:=Tryz.zeroValue3
 t4:=Tryz.underlying4
 a4:=Tryz.isAgg4
 z4:=Tryz.sizeOf4
 v4:=Tryz.zeroValue4
 t9:=Tryz.underlying9
 a9:=Tryz.isAgg9
 z9:=Tryz.sizeOf9
 v9:=Tryz.zeroValue9}
open Go.Lib in
theorem Tryz.internal_strconv_small(i:Nat)(h:i<100)(w:World):
  Calls Tryz.prog 270 #[.int .i64 i] w fun e w'=>e=.returned (.string ⟨(Lib.decDigits i).toArray⟩)∧w'=w:=Any.internal_strconv_small Tryz.ae0 i h w
def Tryz.ae8:Go.Shelf.Ren:=⟨fun|284=>271|129=>252|317=>307|318=>308|n=>n,fun|53=>243|3=>3|212=>376|0=>0|4=>4|46=>291|5=>5|9=>9|n=>n,fun|17=>2|n=>n⟩
theorem Tryz.ae7:Go.Proofs.LaysM.n284 Tryz.prog Tryz.ae8:={
 mixed:=by kernel_rfl
 f129:=Tryz.func252.trans (congrArg some (by kernel_rfl))
 f284:=Tryz.func271.trans (congrArg some (by kernel_rfl))
 f317:=Tryz.func307.trans (congrArg some (by kernel_rfl))
 f318:=Tryz.func308.trans (congrArg some (by kernel_rfl))
 t0:=Tryz.underlying0
 a0:=Tryz.isAgg0
 z0:=Tryz.sizeOf0
 v0:=Tryz.zeroValue0
 t3:=Tryz.underlying3
 a3:=Tryz.isAgg3
 z3:=Tryz.sizeOf3
 v3:=Tryz.zeroValue3
 t4:=Tryz.underlying4
 a4:=Tryz.isAgg4
 z4:=Tryz.sizeOf4
 v4:=Tryz.zeroValue4
 t5:=Tryz.underlying5
 a5:=Tryz.isAgg5
 z5:=Tryz.sizeOf5
 v5:=Tryz.zeroValue5
 t9:=Tryz.underlying9
 a9:=Tryz.isAgg9
 z9:=Tryz.sizeOf9
 v9:=Tryz.zeroValue9
 t46:=Tryz.underlying291
 a46:=Tryz.isAgg291
 z46:=Tryz.sizeOf291
 v46:=Tryz.zeroValue291
 t53:=Tryz.underlying243
 a53:=Tryz.isAgg243
 z53:=Tryz.sizeOf243
 v53:=Tryz.zeroValue243
 t212:=Tryz.underlying376
 a212:=Tryz.isAgg376
 z212:=Tryz.sizeOf376
 v212:=Tryz.zeroValue376
 g17:=by kernel_rfl
 i0:=by kernel_rfl
 i3:=by kernel_rfl
 i4:=by kernel_rfl
 i5:=by kernel_rfl
 i9:=by kernel_rfl
 i46:=by kernel_rfl
 i53:=by kernel_rfl
 i212:=by kernel_rfl
 m17:=by kernel_rfl}
open Go.Lib in
theorem Tryz.internal_strconv_numDigits(u:Nat)(h1:1≤u)(h2:u<18446744073709551616)(w:World)(BW:Lib.TabIs Tryz.prog w "internal/strconv.uint64pow10" .u64 Lib.pow10Tab):
  Calls Tryz.prog 271 #[.int .u64 u] w fun e w'=>e=.returned (.int .i64 (Lib.nDigits u))∧w'=w:=Any.internal_strconv_numDigits Tryz.ae7 u h1 h2 w BW
def Tryz.ae3:Go.Shelf.Ren:=⟨fun|285=>272|n=>n,fun|37=>217|53=>243|3=>3|4=>4|51=>328|9=>9|5=>5|0=>0|n=>n,fun|n=>n⟩
theorem Tryz.ae2:Go.Proofs.Lays.n285 Tryz.prog Tryz.ae3:={
 mixed:=by kernel_rfl
 f285:=Tryz.func272.trans (congrArg some (by kernel_rfl))
 t0:=Tryz.underlying0
 a0:=Tryz.isAgg0
 z0:=Tryz.sizeOf0
 v0:=Tryz.zeroValue0
 t3:=Tryz.underlying3
 a3:=Tryz.isAgg3
 z3:=Tryz.sizeOf3
 v3:=Tryz.zeroValue3
 t4:=Tryz.underlying4
 a4:=Tryz.isAgg4
 z4:=Tryz.sizeOf4
 v4:=Tryz.zeroValue4
 t5:=Tryz.underlying5
 a5:=Tryz.isAgg5
 z5:=Tryz.sizeOf5
 v5:=Tryz.zeroValue5
 t9:=Tryz.underlying9
 a9:=Tryz.isAgg9
 z9:=Tryz.sizeOf9
 v9:=Tryz.zeroValue9
 t37:=Tryz.underlying217
 a37:=Tryz.isAgg217
 z37:=Tryz.sizeOf217
 v37:=Tryz.zeroValue217
 t51:=Tryz.underlying328
 a51:=Tryz.isAgg328
 z51:=Tryz.sizeOf328
 v51:=Tryz.zeroValue328
 t53:=Tryz.underlying243
 a53:=Tryz.isAgg243
 z53:=Tryz.sizeOf243
 v53:=Tryz.zeroValue243}
open Go.RowKit Go.Sort Go.Lib in
theorem Tryz.internal_strconv_formatBase10(bw off cap:Nat)(u:Nat)(d:Array UInt8)(w:World)(hH:Holds (fun(b:UInt8)=>Value.int .u8 (b.toNat:Int)) w bw off d)(hu:u<10^d.size)(BZ:u<18446744073709551616)(aY:d.size<4611686018427387904):
  Calls Tryz.prog 272 #[.slice (some ⟨bw,off,none⟩) d.size cap,.int .u64 u] w fun e w'=>
   e=.returned (.tuple #[])∧∃(n v':Nat) (dk:Array UInt8),w'=(putRow (fun(b:UInt8)=>Value.int .u8 (b.toNat:Int)) w bw off dk).drewN n∧FmtInv d.size u 0 v' dk:=Any.internal_strconv_formatBase10 Tryz.ae2 bw off cap u d w hH hu BZ aY
def Tryz.ae6:Go.Shelf.Ren:=⟨fun|171=>240|243=>296|246=>327|283=>270|284=>271|285=>272|286=>273|129=>252|317=>307|318=>308|319=>309|320=>310|337=>330|338=>331|n=>n,fun|3=>3|9=>9|2=>2|4=>4|171=>342|0=>0|53=>243|37=>217|5=>5|173=>344|212=>376|51=>328|20=>20|213=>377|46=>291|232=>404|233=>405|n=>n,fun|17=>2|18=>6|19=>7|n=>n⟩
theorem Tryz.ae5:Go.Proofs.LaysM.n171 Tryz.prog Tryz.ae6:={
 mixed:=by kernel_rfl
 f129:=Tryz.func252.trans (congrArg some (by kernel_rfl))
 f171:=Tryz.func240.trans (congrArg some (by kernel_rfl))
 f243:=Tryz.func296.trans (congrArg some (by kernel_rfl))
 f246:=Tryz.func327.trans (congrArg some (by kernel_rfl))
 f283:=Tryz.func270.trans (congrArg some (by kernel_rfl))
 f284:=Tryz.func271.trans (congrArg some (by kernel_rfl))
 f285:=Tryz.func272.trans (congrArg some (by kernel_rfl))
 f286:=Tryz.func273.trans (congrArg some (by kernel_rfl))
 f317:=Tryz.func307.trans (congrArg some (by kernel_rfl))
 f318:=Tryz.func308.trans (congrArg some (by kernel_rfl))
 f319:=Tryz.func309.trans (congrArg some (by kernel_rfl))
 f320:=Tryz.func310.trans (congrArg some (by kernel_rfl))
 f337:=Tryz.func330.trans (congrArg some (by kernel_rfl))
 f338:=Tryz.func331.trans (congrArg some (by kernel_rfl))
 t0:=Tryz.underlying0
 a0:=Tryz.isAgg0
 z0:=Tryz.sizeOf0
 v0:=Tryz.zeroValue0
 t2:=Tryz.underlying2
 a2:=Tryz.isAgg2
 z2:=Tryz.sizeOf2
 v2:=Tryz.zeroValue2
 t3:=Tryz.underlying3
 a3:=Tryz.isAgg3
 z3:=Tryz.sizeOf3
 v3:=Tryz.zeroValue3
 t4:=Tryz.underlying4
 a4:=Tryz.isAgg4
 z4:=Tryz.sizeOf4
 v4:=Tryz.zeroValue4
 t5:=Tryz.underlying5
 a5:=Tryz.isAgg5
 z5:=Tryz.sizeOf5
 v5:=Tryz.zeroValue5
 t9:=Tryz.underlying9
 a9:=Tryz.isAgg9
 z9:=Tryz.sizeOf9
 v9:=Tryz.zeroValue9
 t20:=Tryz.underlying20
 a20:=Tryz.isAgg20
 z20:=Tryz.sizeOf20
 v20:=Tryz.zeroValue20
 t37:=Tryz.underlying217
 a37:=Tryz.isAgg217
 z37:=Tryz.sizeOf217
 v37:=Tryz.zeroValue217
 t46:=Tryz.underlying291
 a46:=Tryz.isAgg291
 z46:=Tryz.sizeOf291
 v46:=Tryz.zeroValue291
 t51:=Tryz.underlying328
 a51:=Tryz.isAgg328
 z51:=Tryz.sizeOf328
 v51:=Tryz.zeroValue328
 t53:=Tryz.underlying243
 a53:=Tryz.isAgg243
 z53:=Tryz.sizeOf243
 v53:=Tryz.zeroValue243
 t171:=Tryz.underlying342
 a171:=Tryz.isAgg342
 z171:=Tryz.sizeOf342
 v171:=Tryz.zeroValue342
 t173:=Tryz.underlying344
 a173:=Tryz.isAgg344
 z173:=Tryz.sizeOf344
 v173:=Tryz.zeroValue344
 t212:=Tryz.underlying376
 a212:=Tryz.isAgg376
 z212:=Tryz.sizeOf376
 v212:=Tryz.zeroValue376
 t213:=Tryz.underlying377
 a213:=Tryz.isAgg377
 z213:=Tryz.sizeOf377
 t232:=Tryz.underlying404
 a232:=Tryz.isAgg404
 z232:=Tryz.sizeOf404
 v232:=Tryz.zeroValue404
 t233:=Tryz.underlying405
 a233:=Tryz.isAgg405
 z233:=Tryz.sizeOf405
 v233:=Tryz.zeroValue405
 g17:=by kernel_rfl
 g18:=by kernel_rfl
 g19:=by kernel_rfl
 i0:=by kernel_rfl
 i2:=by kernel_rfl
 i3:=by kernel_rfl
 i4:=by kernel_rfl
 i5:=by kernel_rfl
 i9:=by kernel_rfl
 i20:=by kernel_rfl
 i37:=by kernel_rfl
 i46:=by kernel_rfl
 i51:=by kernel_rfl
 i53:=by kernel_rfl
 i171:=by kernel_rfl
 i173:=by kernel_rfl
 i212:=by kernel_rfl
 i232:=by kernel_rfl
 i233:=by kernel_rfl
 m17:=by kernel_rfl
 m18:=by kernel_rfl
 m19:=by kernel_rfl}
open Go.RowKit Go.Sort Go.Lib in
theorem Tryz.strconv_Itoa(n:Int)(h0:-9223372036854775808≤n)(h1:n≤9223372036854775807)(w:World)(BW:Lib.TabIs Tryz.prog w "internal/strconv.uint64pow10" .u64 Lib.pow10Tab):
  Calls Tryz.prog 240 #[.int .i64 n] w fun e w'=>e=.returned (.string ⟨(Lib.itoa n).toArray⟩)∧∃k os,w'=grow (w.drewN k) os:=Any.strconv_Itoa Tryz.ae5 n h0 h1 w BW
def Tryz.ae4:Go.Shelf.Ren:=⟨fun|172=>239|244=>295|245=>206|247=>326|279=>265|280=>266|281=>267|282=>268|287=>205|316=>305|171=>240|205=>306|321=>263|322=>264|243=>296|246=>327|283=>270|284=>271|285=>272|286=>273|129=>252|317=>307|318=>308|319=>309|320=>310|337=>330|338=>331|n=>n,fun|9=>9|3=>3|75=>245|76=>253|4=>4|5=>5|167=>335|37=>217|0=>0|85=>383|2=>2|168=>337|53=>243|175=>246|46=>291|210=>372|127=>300|145=>392|143=>390|21=>21|171=>342|173=>344|212=>376|51=>328|20=>20|213=>377|232=>404|233=>405|80=>257|n=>n,fun|15=>0|16=>1|17=>2|18=>6|19=>7|n=>n⟩
theorem Tryz.J3:Go.Proofs.LaysC.n172 Tryz.prog Tryz.ae4:={
 mixed:=by kernel_rfl
 f129:=Tryz.func252.trans (congrArg some (by kernel_rfl))
 f171:=Tryz.func240.trans (congrArg some (by kernel_rfl))
 f172:=Tryz.func239.trans (congrArg some (by kernel_rfl))
 f205:=Tryz.func306.trans (congrArg some (by kernel_rfl))
 f243:=Tryz.func296.trans (congrArg some (by kernel_rfl))
 f244:=Tryz.func295.trans (congrArg some (by kernel_rfl))
 f245:=Tryz.func206.trans (congrArg some (by kernel_rfl))
 f246:=Tryz.func327.trans (congrArg some (by kernel_rfl))
 f247:=Tryz.func326.trans (congrArg some (by kernel_rfl))
 f279:=Tryz.func265.trans (congrArg some (by kernel_rfl))
 f280:=Tryz.func266.trans (congrArg some (by kernel_rfl))
 f281:=Tryz.func267.trans (congrArg some (by kernel_rfl))
 f282:=Tryz.func268.trans (congrArg some (by kernel_rfl))
 f283:=Tryz.func270.trans (congrArg some (by kernel_rfl))
 f284:=Tryz.func271.trans (congrArg some (by kernel_rfl))
 f285:=Tryz.func272.trans (congrArg some (by kernel_rfl))
 f286:=Tryz.func273.trans (congrArg some (by kernel_rfl))
 f287:=Tryz.func205.trans (congrArg some (by kernel_rfl))
 f316:=Tryz.func305.trans (congrArg some (by kernel_rfl))
 f317:=Tryz.func307.trans (congrArg some (by kernel_rfl))
 f318:=Tryz.func308.trans (congrArg some (by kernel_rfl))
 f319:=Tryz.func309.trans (congrArg some (by kernel_rfl))
 f320:=Tryz.func310.trans (congrArg some (by kernel_rfl))
 f321:=Tryz.func263.trans (congrArg some (by kernel_rfl))
 f322:=Tryz.func264.trans (congrArg some (by kernel_rfl))
 f337:=Tryz.func330.trans (congrArg some (by kernel_rfl))
 f338:=Tryz.func331.trans (congrArg some (by kernel_rfl))
 t0:=Tryz.underlying0
 a0:=Tryz.isAgg0
 z0:=Tryz.sizeOf0
 v0:=Tryz.zeroValue0
 t2:=Tryz.underlying2
 a2:=Tryz.isAgg2
 z2:=Tryz.sizeOf2
 v2:=Tryz.zeroValue2
 t3:=Tryz.underlying3
 a3:=Tryz.isAgg3
 z3:=Tryz.sizeOf3
 v3:=Tryz.zeroValue3
 t4:=Tryz.underlying4
 a4:=Tryz.isAgg4
 z4:=Tryz.sizeOf4
 v4:=Tryz.zeroValue4
 t5:=Tryz.underlying5
 a5:=Tryz.isAgg5
 z5:=Tryz.sizeOf5
 v5:=Tryz.zeroValue5
 t9:=Tryz.underlying9
 a9:=Tryz.isAgg9
 z9:=Tryz.sizeOf9
 v9:=Tryz.zeroValue9
 t20:=Tryz.underlying20
 a20:=Tryz.isAgg20
 z20:=Tryz.sizeOf20
 v20:=Tryz.zeroValue20
 t21:=Tryz.underlying21
 a21:=Tryz.isAgg21
 z21:=Tryz.sizeOf21
 v21:=Tryz.zeroValue21
 t37:=Tryz.underlying217
 a37:=Tryz.isAgg217
 z37:=Tryz.sizeOf217
 v37:=Tryz.zeroValue217
 t46:=Tryz.underlying291
 a46:=Tryz.isAgg291
 z46:=Tryz.sizeOf291
 v46:=Tryz.zeroValue291
 t51:=Tryz.underlying328
 a51:=Tryz.isAgg328
 z51:=Tryz.sizeOf328
 v51:=Tryz.zeroValue328
 t53:=Tryz.underlying243
 a53:=Tryz.isAgg243
 z53:=Tryz.sizeOf243
 v53:=Tryz.zeroValue243
 t75:=Tryz.underlying245
 a75:=Tryz.isAgg245
 z75:=Tryz.sizeOf245
 v75:=Tryz.zeroValue245
 t76:=Tryz.underlying253
 a76:=Tryz.isAgg253
 z76:=Tryz.sizeOf253
 v76:=Tryz.zeroValue253
 t85:=Tryz.underlying383
 a85:=Tryz.isAgg383
 z85:=Tryz.sizeOf383
 v85:=Tryz.zeroValue383
 t127:=Tryz.underlying300
 a127:=Tryz.isAgg300
 z127:=Tryz.sizeOf300
 v127:=Tryz.zeroValue300
 t143:=Tryz.underlying390
 a143:=Tryz.isAgg390
 z143:=Tryz.sizeOf390
 v143:=Tryz.zeroValue390
 t145:=Tryz.underlying392
 a145:=Tryz.isAgg392
 z145:=Tryz.sizeOf392
 v145:=Tryz.zeroValue392
 t167:=Tryz.underlying335
 a167:=Tryz.isAgg335
 z167:=Tryz.sizeOf335
 v167:=Tryz.zeroValue335
 t168:=Tryz.underlying337
 a168:=Tryz.isAgg337
 z168:=Tryz.sizeOf337
 v168:=Tryz.zeroValue337
 t171:=Tryz.underlying342
 a171:=Tryz.isAgg342
 z171:=Tryz.sizeOf342
 v171:=Tryz.zeroValue342
 t173:=Tryz.underlying344
 a173:=Tryz.isAgg344
 z173:=Tryz.sizeOf344
 v173:=Tryz.zeroValue344
 t175:=Tryz.underlying246
 a175:=Tryz.isAgg246
 z175:=Tryz.sizeOf246
 v175:=Tryz.zeroValue246
 t210:=Tryz.underlying372
 a210:=Tryz.isAgg372
 z210:=Tryz.sizeOf372
 v210:=Tryz.zeroValue372
 t212:=Tryz.underlying376
 a212:=Tryz.isAgg376
 z212:=Tryz.sizeOf376
 v212:=Tryz.zeroValue376
 t213:=Tryz.underlying377
 a213:=Tryz.isAgg377
 z213:=Tryz.sizeOf377
 t232:=Tryz.underlying404
 a232:=Tryz.isAgg404
 z232:=Tryz.sizeOf404
 v232:=Tryz.zeroValue404
 t233:=Tryz.underlying405
 a233:=Tryz.isAgg405
 z233:=Tryz.sizeOf405
 v233:=Tryz.zeroValue405
 g15:=by kernel_rfl
 g16:=by kernel_rfl
 g17:=by kernel_rfl
 g18:=by kernel_rfl
 g19:=by kernel_rfl
 t80:=Tryz.underlying257
 a80:=Tryz.isAgg257
 z80:=Tryz.sizeOf257
 v80:=Tryz.zeroValue257
 i0:=by kernel_rfl
 i2:=by kernel_rfl
 i3:=by kernel_rfl
 i4:=by kernel_rfl
 i5:=by kernel_rfl
 i9:=by kernel_rfl
 i20:=by kernel_rfl
 i21:=by kernel_rfl
 i37:=by kernel_rfl
 i46:=by kernel_rfl
 i51:=by kernel_rfl
 i53:=by kernel_rfl
 i75:=by kernel_rfl
 i76:=by kernel_rfl
 i80:=by kernel_rfl
 i85:=by kernel_rfl
 i127:=by kernel_rfl
 i143:=by kernel_rfl
 i145:=by kernel_rfl
 i167:=by kernel_rfl
 i168:=by kernel_rfl
 i171:=by kernel_rfl
 i173:=by kernel_rfl
 i175:=by kernel_rfl
 i210:=by kernel_rfl
 i212:=by kernel_rfl
 i232:=by kernel_rfl
 i233:=by kernel_rfl
 m15:=by kernel_rfl
 m16:=by kernel_rfl
 m17:=by kernel_rfl
 m18:=by kernel_rfl
 m19:=by kernel_rfl
 c0:=by kernel_rfl
 c2:=by kernel_rfl
 c3:=by kernel_rfl
 c4:=by kernel_rfl
 c5:=by kernel_rfl
 c9:=by kernel_rfl
 c20:=by kernel_rfl
 c21:=by kernel_rfl
 c37:=by kernel_rfl
 c46:=by kernel_rfl
 c51:=by kernel_rfl
 c53:=by kernel_rfl
 c75:=by kernel_rfl
 c76:=by kernel_rfl
 c80:=by kernel_rfl
 c85:=by kernel_rfl
 c127:=by kernel_rfl
 c143:=by kernel_rfl
 c145:=by kernel_rfl
 c167:=by kernel_rfl
 c168:=by kernel_rfl
 c171:=by kernel_rfl
 c173:=by kernel_rfl
 c175:=by kernel_rfl
 c210:=by kernel_rfl
 c212:=by kernel_rfl
 c213:=by kernel_rfl
 c232:=by kernel_rfl
 c233:=by kernel_rfl}
open Go.RowKit in
theorem Tryz.strconv_Atoi_ok(s:ByteArray)(zx:s.size≤9223372036854775806)(v:Int)(h:Lib.atoiAll s.data.toList=.ok v)(w:World):
  Calls Tryz.prog 239 #[.string s] w fun e w'=>e=.returned (.tuple #[.int .i64 v,.nilIface])∧(w'=w∨∃t,w'=Lib.bytesWorld w 5 t):=Any.strconv_Atoi_ok Tryz.J3 s zx v h w
open Go.RowKit in
theorem Tryz.strconv_Atoi_range(s:ByteArray)(acT:s.size≤281474976710656)(h:Lib.atoiAll s.data.toList=.range)(ev:Value)(w:World)(hv:w.cell? ⟨1,0,none⟩=some ev)(zq:ev=.nilIface∨∃te pe,ev=.iface te pe):
  Calls Tryz.prog 239 #[.string s] w fun e w'=>∃N,e=.returned (.tuple #[.int .i64 (Lib.atoiSat s.data.toList),.iface 337 (.pointer (some ⟨N,0,none⟩))])∧w.heap.size≤N∧w'.heap[N]?=some (.cells #[.string ⟨#[65,116,111,105]⟩,.string s,ev] 372 (0,0))∧Below w.heap.size w w':=Any.strconv_Atoi_range Tryz.J3 s acT h ev w hv zq
def Tryz.ae_:Go.Shelf.Ren:=⟨fun|14=>157|16=>205|17=>206|19=>263|20=>264|21=>265|22=>266|23=>267|24=>268|25=>305|27=>240|26=>306|28=>296|29=>327|30=>270|31=>271|32=>272|33=>273|35=>252|34=>307|36=>308|37=>309|38=>310|39=>330|40=>331|n=>n,fun|9=>9|3=>3|22=>243|24=>245|25=>246|4=>4|34=>335|5=>5|36=>291|37=>217|0=>0|39=>337|21=>21|44=>372|47=>300|50=>392|48=>390|2=>2|52=>342|55=>344|59=>376|60=>328|20=>20|61=>377|65=>404|66=>405|67=>257|n=>n,fun|0=>0|1=>1|2=>2|3=>6|4=>7|n=>n⟩
theorem Tryz.ae9:Go.Proofs.LaysPu.n14 Tryz.prog Tryz.ae_:={
 mixed:=by kernel_rfl
 f14:=Tryz.func157.trans (congrArg some (by kernel_rfl))
 f16:=Tryz.func205.trans (congrArg some (by kernel_rfl))
 f17:=Tryz.func206.trans (congrArg some (by kernel_rfl))
 f19:=Tryz.func263.trans (congrArg some (by kernel_rfl))
 f20:=Tryz.func264.trans (congrArg some (by kernel_rfl))
 f21:=Tryz.func265.trans (congrArg some (by kernel_rfl))
 f22:=Tryz.func266.trans (congrArg some (by kernel_rfl))
 f23:=Tryz.func267.trans (congrArg some (by kernel_rfl))
 f24:=Tryz.func268.trans (congrArg some (by kernel_rfl))
 f25:=Tryz.func305.trans (congrArg some (by kernel_rfl))
 f26:=Tryz.func306.trans (congrArg some (by kernel_rfl))
 f27:=Tryz.func240.trans (congrArg some (by kernel_rfl))
 f28:=Tryz.func296.trans (congrArg some (by kernel_rfl))
 f29:=Tryz.func327.trans (congrArg some (by kernel_rfl))
 f30:=Tryz.func270.trans (congrArg some (by kernel_rfl))
 f31:=Tryz.func271.trans (congrArg some (by kernel_rfl))
 f32:=Tryz.func272.trans (congrArg some (by kernel_rfl))
 f33:=Tryz.func273.trans (congrArg some (by kernel_rfl))
 f34:=Tryz.func307.trans (congrArg some (by kernel_rfl))
 f35:=Tryz.func252.trans (congrArg some (by kernel_rfl))
 f36:=Tryz.func308.trans (congrArg some (by kernel_rfl))
 f37:=Tryz.func309.trans (congrArg some (by kernel_rfl))
 f38:=Tryz.func310.trans (congrArg some (by kernel_rfl))
 f39:=Tryz.func330.trans (congrArg some (by kernel_rfl))
 f40:=Tryz.func331.trans (congrArg some (by kernel_rfl))
 t0:=Tryz.underlying0
 a0:=Tryz.isAgg0
 z0:=Tryz.sizeOf0
 v0:=Tryz.zeroValue0
 i0:=by kernel_rfl
 t2:=Tryz.underlying2
 a2:=Tryz.isAgg2
 z2:=Tryz.sizeOf2
 v2:=Tryz.zeroValue2
 i2:=by kernel_rfl
 t3:=Tryz.underlying3
 a3:=Tryz.isAgg3
 z3:=Tryz.sizeOf3
 v3:=Tryz.zeroValue3
 i3:=by kernel_rfl
 t4:=Tryz.underlying4
 a4:=Tryz.isAgg4
 z4:=Tryz.sizeOf4
 v4:=Tryz.zeroValue4
 i4:=by kernel_rfl
 t5:=Tryz.underlying5
 a5:=Tryz.isAgg5
 z5:=Tryz.sizeOf5
 v5:=Tryz.zeroValue5
 i5:=by kernel_rfl
 t9:=Tryz.underlying9
 a9:=Tryz.isAgg9
 z9:=Tryz.sizeOf9
 v9:=Tryz.zeroValue9
 i9:=by kernel_rfl
 t20:=Tryz.underlying20
 a20:=Tryz.isAgg20
 z20:=Tryz.sizeOf20
 v20:=Tryz.zeroValue20
 i20:=by kernel_rfl
 t21:=Tryz.underlying21
 a21:=Tryz.isAgg21
 z21:=Tryz.sizeOf21
 v21:=Tryz.zeroValue21
 i21:=by kernel_rfl
 t22:=Tryz.underlying243
 a22:=Tryz.isAgg243
 z22:=Tryz.sizeOf243
 v22:=Tryz.zeroValue243
 i22:=by kernel_rfl
 t24:=Tryz.underlying245
 a24:=Tryz.isAgg245
 z24:=Tryz.sizeOf245
 v24:=Tryz.zeroValue245
 i24:=by kernel_rfl
 t25:=Tryz.underlying246
 a25:=Tryz.isAgg246
 z25:=Tryz.sizeOf246
 v25:=Tryz.zeroValue246
 i25:=by kernel_rfl
 t34:=Tryz.underlying335
 a34:=Tryz.isAgg335
 z34:=Tryz.sizeOf335
 v34:=Tryz.zeroValue335
 i34:=by kernel_rfl
 c34:=by kernel_rfl
 t36:=Tryz.underlying291
 a36:=Tryz.isAgg291
 z36:=Tryz.sizeOf291
 v36:=Tryz.zeroValue291
 i36:=by kernel_rfl
 t37:=Tryz.underlying217
 a37:=Tryz.isAgg217
 z37:=Tryz.sizeOf217
 v37:=Tryz.zeroValue217
 i37:=by kernel_rfl
 t39:=Tryz.underlying337
 a39:=Tryz.isAgg337
 z39:=Tryz.sizeOf337
 v39:=Tryz.zeroValue337
 i39:=by kernel_rfl
 t44:=Tryz.underlying372
 a44:=Tryz.isAgg372
 z44:=Tryz.sizeOf372
 v44:=Tryz.zeroValue372
 i44:=by kernel_rfl
 t47:=Tryz.underlying300
 a47:=Tryz.isAgg300
 z47:=Tryz.sizeOf300
 v47:=Tryz.zeroValue300
 i47:=by kernel_rfl
 t48:=Tryz.underlying390
 a48:=Tryz.isAgg390
 z48:=Tryz.sizeOf390
 v48:=Tryz.zeroValue390
 i48:=by kernel_rfl
 t50:=Tryz.underlying392
 a50:=Tryz.isAgg392
 z50:=Tryz.sizeOf392
 v50:=Tryz.zeroValue392
 i50:=by kernel_rfl
 t52:=Tryz.underlying342
 a52:=Tryz.isAgg342
 z52:=Tryz.sizeOf342
 v52:=Tryz.zeroValue342
 i52:=by kernel_rfl
 t55:=Tryz.underlying344
 a55:=Tryz.isAgg344
 z55:=Tryz.sizeOf344
 v55:=Tryz.zeroValue344
 i55:=by kernel_rfl
 t59:=Tryz.underlying376
 a59:=Tryz.isAgg376
 z59:=Tryz.sizeOf376
 v59:=Tryz.zeroValue376
 i59:=by kernel_rfl
 t60:=Tryz.underlying328
 a60:=Tryz.isAgg328
 z60:=Tryz.sizeOf328
 v60:=Tryz.zeroValue328
 i60:=by kernel_rfl
 t61:=Tryz.underlying377
 a61:=Tryz.isAgg377
 z61:=Tryz.sizeOf377
 t65:=Tryz.underlying404
 a65:=Tryz.isAgg404
 z65:=Tryz.sizeOf404
 v65:=Tryz.zeroValue404
 i65:=by kernel_rfl
 t66:=Tryz.underlying405
 a66:=Tryz.isAgg405
 z66:=Tryz.sizeOf405
 v66:=Tryz.zeroValue405
 i66:=by kernel_rfl
 t67:=Tryz.underlying257
 a67:=Tryz.isAgg257
 z67:=Tryz.sizeOf257
 v67:=Tryz.zeroValue257
 i67:=by kernel_rfl
 g0:=by kernel_rfl
 m0:=by kernel_rfl
 g1:=by kernel_rfl
 m1:=by kernel_rfl
 g2:=by kernel_rfl
 m2:=by kernel_rfl
 g3:=by kernel_rfl
 m3:=by kernel_rfl
 g4:=by kernel_rfl
 m4:=by kernel_rfl}
open Go.RowKit in
theorem Tryz.strconv_ParseUint_10_at64_ok(s:ByteArray)(zx:s.size≤9223372036854775806)(u:Nat)(h:Lib.parseUintB 64 s.data.toList=.ok u)(w:World):
  Calls Tryz.prog 157 #[.string s,.int .i64 10,.int .i64 64] w fun e w'=>e=.returned (.tuple #[.int .u64 u,.nilIface])∧(w'=w∨w'=Lib.bytesWorld w 5 s):=Any.strconv_ParseUint_10_at64_ok Tryz.ae9 s zx u h w
def Tryz.aeZ:Go.Shelf.Ren:=⟨fun|219=>325|217=>339|225=>338|224=>337|267=>340|266=>343|314=>344|n=>n,fun|9=>9|3=>3|4=>4|5=>5|46=>291|146=>346|51=>328|n=>n,fun|1=>3|n=>n⟩
theorem Tryz.aeY:Go.Proofs.Lays.n219 Tryz.prog Tryz.aeZ:={
 mixed:=by kernel_rfl
 f217:=Tryz.func339.trans (congrArg some (by kernel_rfl))
 f219:=Tryz.func325.trans (congrArg some (by kernel_rfl))
 f224:=Tryz.func337.trans (congrArg some (by kernel_rfl))
 f225:=Tryz.func338.trans (congrArg some (by kernel_rfl))
 f266:=Tryz.func343.trans (congrArg some (by kernel_rfl))
 f267:=Tryz.func340.trans (congrArg some (by kernel_rfl))
 f314:=Tryz.func344.trans (congrArg some (by kernel_rfl))
 t3:=Tryz.underlying3
 a3:=Tryz.isAgg3
 z3:=Tryz.sizeOf3
 v3:=Tryz.zeroValue3
 t4:=Tryz.underlying4
 a4:=Tryz.isAgg4
 z4:=Tryz.sizeOf4
 v4:=Tryz.zeroValue4
 t5:=Tryz.underlying5
 a5:=Tryz.isAgg5
 z5:=Tryz.sizeOf5
 v5:=Tryz.zeroValue5
 t9:=Tryz.underlying9
 a9:=Tryz.isAgg9
 z9:=Tryz.sizeOf9
 v9:=Tryz.zeroValue9
 t46:=Tryz.underlying291
 a46:=Tryz.isAgg291
 z46:=Tryz.sizeOf291
 v46:=Tryz.zeroValue291
 t51:=Tryz.underlying328
 a51:=Tryz.isAgg328
 z51:=Tryz.sizeOf328
 v51:=Tryz.zeroValue328
 t146:=Tryz.underlying346
 a146:=Tryz.isAgg346
 z146:=Tryz.sizeOf346
 v146:=Tryz.zeroValue346
 g1:=by kernel_rfl}
open Go.RowKit Go.Lib in
theorem Tryz.stringslite_Index_one(s:ByteArray)(c:UInt8)(w:World):
  Calls Tryz.prog 325 #[.string s,.string ⟨#[c]⟩] w fun e w'=>e=.returned (.int .i64 (Lib.indexByte s.data.toList c))∧w'=w:=Any.stringslite_Index_one Tryz.aeY s c w
def Tryz.RJ:Go.Shelf.Ren:=⟨fun|105=>162|212=>209|99=>210|165=>211|166=>160|170=>212|169=>163|263=>274|264=>275|206=>276|240=>207|241=>277|276=>269|277=>311|n=>n,fun|9=>9|3=>3|4=>4|20=>20|0=>0|46=>291|109=>295|5=>5|72=>251|76=>253|51=>328|146=>346|53=>243|148=>348|70=>249|37=>217|75=>245|127=>300|164=>340|80=>257|n=>n,fun|n=>n⟩
theorem Tryz.aeT:Go.Proofs.Lays.n105 Tryz.prog Tryz.RJ:={
 mixed:=by kernel_rfl
 f99:=Tryz.func210.trans (congrArg some (by kernel_rfl))
 f105:=Tryz.func162.trans (congrArg some (by kernel_rfl))
 f165:=Tryz.func211.trans (congrArg some (by kernel_rfl))
 f166:=Tryz.func160.trans (congrArg some (by kernel_rfl))
 f169:=Tryz.func163.trans (congrArg some (by kernel_rfl))
 f170:=Tryz.func212.trans (congrArg some (by kernel_rfl))
 f206:=Tryz.func276.trans (congrArg some (by kernel_rfl))
 f212:=Tryz.func209.trans (congrArg some (by kernel_rfl))
 f240:=Tryz.func207.trans (congrArg some (by kernel_rfl))
 f241:=Tryz.func277.trans (congrArg some (by kernel_rfl))
 f263:=Tryz.func274.trans (congrArg some (by kernel_rfl))
 f264:=Tryz.func275.trans (congrArg some (by kernel_rfl))
 f276:=Tryz.func269.trans (congrArg some (by kernel_rfl))
 f277:=Tryz.func311.trans (congrArg some (by kernel_rfl))
 t0:=Tryz.underlying0
 a0:=Tryz.isAgg0
 z0:=Tryz.sizeOf0
 v0:=Tryz.zeroValue0
 t3:=Tryz.underlying3
 a3:=Tryz.isAgg3
 z3:=Tryz.sizeOf3
 v3:=Tryz.zeroValue3
 t4:=Tryz.underlying4
 a4:=Tryz.isAgg4
 z4:=Tryz.sizeOf4
 v4:=Tryz.zeroValue4
 t5:=Tryz.underlying5
 a5:=Tryz.isAgg5
 z5:=Tryz.sizeOf5
 v5:=Tryz.zeroValue5
 t9:=Tryz.underlying9
 a9:=Tryz.isAgg9
 z9:=Tryz.sizeOf9
 v9:=Tryz.zeroValue9
 t20:=Tryz.underlying20
 a20:=Tryz.isAgg20
 z20:=Tryz.sizeOf20
 v20:=Tryz.zeroValue20
 t37:=Tryz.underlying217
 a37:=Tryz.isAgg217
 z37:=Tryz.sizeOf217
 v37:=Tryz.zeroValue217
 t46:=Tryz.underlying291
 a46:=Tryz.isAgg291
 z46:=Tryz.sizeOf291
 v46:=Tryz.zeroValue291
 t51:=Tryz.underlying328
 a51:=Tryz.isAgg328
 z51:=Tryz.sizeOf328
 v51:=Tryz.zeroValue328
 t53:=Tryz.underlying243
 a53:=Tryz.isAgg243
 z53:=Tryz.sizeOf243
 v53:=Tryz.zeroValue243
 t70:=Tryz.underlying249
 a70:=Tryz.isAgg249
 z70:=Tryz.sizeOf249
 v70:=Tryz.zeroValue249
 t72:=Tryz.underlying251
 a72:=Tryz.isAgg251
 z72:=Tryz.sizeOf251
 v72:=Tryz.zeroValue251
 t75:=Tryz.underlying245
 a75:=Tryz.isAgg245
 z75:=Tryz.sizeOf245
 v75:=Tryz.zeroValue245
 t76:=Tryz.underlying253
 a76:=Tryz.isAgg253
 z76:=Tryz.sizeOf253
 v76:=Tryz.zeroValue253
 t109:=Tryz.underlying295
 a109:=Tryz.isAgg295
 z109:=Tryz.sizeOf295
 v109:=Tryz.zeroValue295
 t127:=Tryz.underlying300
 a127:=Tryz.isAgg300
 z127:=Tryz.sizeOf300
 v127:=Tryz.zeroValue300
 t146:=Tryz.underlying346
 a146:=Tryz.isAgg346
 z146:=Tryz.sizeOf346
 v146:=Tryz.zeroValue346
 t148:=Tryz.underlying348
 a148:=Tryz.isAgg348
 z148:=Tryz.sizeOf348
 v148:=Tryz.zeroValue348
 t164:=Tryz.underlying340
 a164:=Tryz.isAgg340
 z164:=Tryz.sizeOf340
 v164:=Tryz.zeroValue340}
theorem Tryz.V9:Builder.Extra Tryz.prog Tryz.RJ:={
 sizeBuilder:=by kernel_rfl
 liesBuilder:=by kernel_rfl
 t5:=Tryz.underlying5
 a5:=Tryz.isAgg5
 z5:=Tryz.sizeOf5
 v5:=Tryz.zeroValue5
 infoByte:=by kernel_rfl
 cellsByte:=by kernel_rfl
 sizeByte:=by kernel_rfl
 neB5:=by decide}
open Go.RowKit Go.Lib in
theorem Tryz.strings_Repeat(s:ByteArray)(c:Nat)(w:World)(hc:c≤9223372036854775807)(hlen:s.size*c≤140737488355328):
  Calls Tryz.prog 162 #[.string s,.int .i64 c] w fun e w'=>e=.returned (.string ⟨(Lib.repeatL s.data.toList c).toArray⟩)∧Below w.heap.size w w':=Any.strings_Repeat Tryz.aeT Tryz.V9 s c w hc hlen
def Tryz.aeX:Go.Shelf.Ren:=⟨fun|194=>147|n=>n,fun|31=>73|9=>9|3=>3|4=>4|0=>0|n=>n,fun|n=>n⟩
theorem Tryz.RM:Go.Proofs.Lays.n194 Tryz.prog Tryz.aeX:={
 mixed:=by kernel_rfl
 f194:=Tryz.func147.trans (congrArg some (by kernel_rfl))
 t0:=Tryz.underlying0
 a0:=Tryz.isAgg0
 z0:=Tryz.sizeOf0
 v0:=Tryz.zeroValue0
 t3:=Tryz.underlying3
 a3:=Tryz.isAgg3
 z3:=Tryz.sizeOf3
 v3:=Tryz.zeroValue3
 t4:=Tryz.underlying4
 a4:=Tryz.isAgg4
 z4:=Tryz.sizeOf4
 v4:=Tryz.zeroValue4
 t9:=Tryz.underlying9
 a9:=Tryz.isAgg9
 z9:=Tryz.sizeOf9
 v9:=Tryz.zeroValue9
 t31:=Tryz.underlying73
 a31:=Tryz.isAgg73
 z31:=Tryz.sizeOf73
 v31:=Tryz.zeroValue73}
open Go.RowKit Go.Lib Go.Sort in
theorem Tryz.slices_Compact_string(bw off cap:Nat)(zs:List (List UInt8))(w:World)(hH:Holds encStr w bw off zs.toArray)(aY:zs.length≤9223372036854775807)(ct:zs.length≤cap):
  Calls Tryz.prog 147 #[.slice (some ⟨bw,off,none⟩) zs.length cap] w fun e w'=>e=.returned (.slice (some ⟨bw,off,none⟩) (Lib.compact zs).length cap)∧∃q,w'=putRow encStr (Sort.ahead w q) bw off (Lib.compact zs++List.replicate (zs.length-(Lib.compact zs).length) []).toArray:=Any.slices_Compact_string Tryz.RM bw off cap zs w hH aY ct
open Go.RowKit Go.Lib Go.Sort in
theorem Tryz.slices_Compact_string_empty(a:Option Addr)(cap:Nat)(w:World):
  Calls Tryz.prog 147 #[.slice a 0 cap] w fun e w'=>e=.returned (.slice a 0 cap)∧w'=w:=Any.slices_Compact_string_empty Tryz.RM a cap w
def Tryz.RO:Go.Shelf.Ren:=⟨fun|6=>146|8=>199|9=>198|19=>251|20=>252|21=>242|22=>243|23=>244|24=>245|25=>246|26=>247|27=>248|28=>249|29=>250|36=>297|31=>298|32=>299|37=>300|38=>301|39=>75|41=>328|n=>n,fun|27=>73|29=>9|3=>3|32=>291|26=>73|0=>0|44=>328|46=>243|4=>4|36=>322|35=>321|41=>205|5=>5|9=>9|53=>363|57=>367|63=>386|64=>387|n=>n,fun|n=>n⟩
theorem Tryz.RN:Go.Proofs.SlLaysM.n6 Tryz.prog Tryz.RO:={
 mixed:=by kernel_rfl
 f6:=⟨Tryz.f146.name,by decide,Tryz.func146.trans (congrArg some (by kernel_rfl))⟩
 f8:=Tryz.func199.trans (congrArg some (by kernel_rfl))
 f9:=⟨Tryz.f198.name,by decide,Tryz.func198.trans (congrArg some (by kernel_rfl))⟩
 f19:=Tryz.func251.trans (congrArg some (by kernel_rfl))
 f20:=Tryz.func252.trans (congrArg some (by kernel_rfl))
 f21:=⟨Tryz.f242.name,by decide,Tryz.func242.trans (congrArg some (by kernel_rfl))⟩
 f22:=⟨Tryz.f243.name,by decide,Tryz.func243.trans (congrArg some (by kernel_rfl))⟩
 f23:=⟨Tryz.f244.name,by decide,Tryz.func244.trans (congrArg some (by kernel_rfl))⟩
 f24:=⟨Tryz.f245.name,by decide,Tryz.func245.trans (congrArg some (by kernel_rfl))⟩
 f25:=⟨Tryz.f246.name,by decide,Tryz.func246.trans (congrArg some (by kernel_rfl))⟩
 f26:=⟨Tryz.f247.name,by decide,Tryz.func247.trans (congrArg some (by kernel_rfl))⟩
 f27:=⟨Tryz.f248.name,by decide,Tryz.func248.trans (congrArg some (by kernel_rfl))⟩
 f28:=⟨Tryz.f249.name,by decide,Tryz.func249.trans (congrArg some (by kernel_rfl))⟩
 f29:=⟨Tryz.f250.name,by decide,Tryz.func250.trans (congrArg some (by kernel_rfl))⟩
 f31:=Tryz.func298.trans (congrArg some (by kernel_rfl))
 f32:=Tryz.func299.trans (congrArg some (by kernel_rfl))
 f36:=⟨Tryz.f297.name,by decide,Tryz.func297.trans (congrArg some (by kernel_rfl))⟩
 f37:=⟨Tryz.f300.name,by decide,Tryz.func300.trans (congrArg some (by kernel_rfl))⟩
 f38:=⟨Tryz.f301.name,by decide,Tryz.func301.trans (congrArg some (by kernel_rfl))⟩
 f39:=⟨Tryz.f75.name,by decide,Tryz.func75.trans (congrArg some (by kernel_rfl))⟩
 f41:=⟨Tryz.f328.name,by decide,Tryz.func328.trans (congrArg some (by kernel_rfl))⟩
 t0:=Tryz.underlying0
 a0:=Tryz.isAgg0
 z0:=Tryz.sizeOf0
 v0:=Tryz.zeroValue0
 t3:=Tryz.underlying3
 a3:=Tryz.isAgg3
 z3:=Tryz.sizeOf3
 v3:=Tryz.zeroValue3
 t4:=Tryz.underlying4
 a4:=Tryz.isAgg4
 z4:=Tryz.sizeOf4
 v4:=Tryz.zeroValue4
 t5:=Tryz.underlying5
 a5:=Tryz.isAgg5
 z5:=Tryz.sizeOf5
 v5:=Tryz.zeroValue5
 t9:=Tryz.underlying9
 a9:=Tryz.isAgg9
 z9:=Tryz.sizeOf9
 v9:=Tryz.zeroValue9
 t26:=Tryz.underlying73
 a26:=Tryz.isAgg73
 z26:=Tryz.sizeOf73
 v26:=Tryz.zeroValue73
 t27:=Tryz.underlying73
 a27:=Tryz.isAgg73
 z27:=Tryz.sizeOf73
 v27:=Tryz.zeroValue73
 t29:=Tryz.underlying9
 a29:=Tryz.isAgg9
 z29:=Tryz.sizeOf9
 v29:=Tryz.zeroValue9
 t32:=Tryz.underlying291
 a32:=Tryz.isAgg291
 z32:=Tryz.sizeOf291
 v32:=Tryz.zeroValue291
 t35:=Tryz.underlying321
 a35:=Tryz.isAgg321
 z35:=Tryz.sizeOf321
 v35:=Tryz.zeroValue321
 t36:=Tryz.underlying322
 a36:=Tryz.isAgg322
 z36:=Tryz.sizeOf322
 v36:=Tryz.zeroValue322
 t41:=Tryz.underlying205
 a41:=Tryz.isAgg205
 z41:=Tryz.sizeOf205
 v41:=Tryz.zeroValue205
 t44:=Tryz.underlying328
 a44:=Tryz.isAgg328
 z44:=Tryz.sizeOf328
 v44:=Tryz.zeroValue328
 t46:=Tryz.underlying243
 a46:=Tryz.isAgg243
 z46:=Tryz.sizeOf243
 v46:=Tryz.zeroValue243
 t53:=Tryz.underlying363
 a53:=Tryz.isAgg363
 z53:=Tryz.sizeOf363
 v53:=Tryz.zeroValue363
 t57:=Tryz.underlying367
 a57:=Tryz.isAgg367
 z57:=Tryz.sizeOf367
 v57:=Tryz.zeroValue367
 t63:=Tryz.underlying386
 a63:=Tryz.isAgg386
 z63:=Tryz.sizeOf386
 v63:=Tryz.zeroValue386
 t64:=Tryz.underlying387
 a64:=Tryz.isAgg387
 z64:=Tryz.sizeOf387
 v64:=Tryz.zeroValue387}
open Go.RowKit Go.Sort in
theorem Tryz.slices_Sort_string_none(p:Option Addr)(cap:Nat)(w:World):
  Calls Tryz.prog 146 #[.slice p 0 cap] w fun e w'=>e=.returned (.tuple #[])∧w'=w:=AnyM.slices_Sort_string_none Tryz.RN p cap w
def Tryz.afc:Go.Shelf.Ren:=⟨fun|6=>149|15=>199|14=>200|28=>251|29=>252|20=>253|21=>254|22=>255|23=>256|24=>257|25=>258|26=>259|27=>260|46=>302|47=>298|48=>299|49=>303|50=>304|57=>329|n=>n,fun|22=>82|24=>73|25=>237|3=>3|39=>291|0=>0|53=>328|55=>243|4=>4|46=>322|45=>321|50=>205|5=>5|9=>9|66=>363|70=>367|76=>386|77=>387|n=>n,fun|n=>n⟩
theorem Tryz.afb:Go.Proofs.SlLaysF.n6 Tryz.prog Tryz.afc:={
 mixed:=by kernel_rfl
 f6:=⟨Tryz.f149.name,by decide,Tryz.func149.trans (congrArg some (by kernel_rfl))⟩
 f14:=⟨Tryz.f200.name,by decide,Tryz.func200.trans (congrArg some (by kernel_rfl))⟩
 f15:=Tryz.func199.trans (congrArg some (by kernel_rfl))
 f20:=⟨Tryz.f253.name,by decide,Tryz.func253.trans (congrArg some (by kernel_rfl))⟩
 f21:=⟨Tryz.f254.name,by decide,Tryz.func254.trans (congrArg some (by kernel_rfl))⟩
 f22:=⟨Tryz.f255.name,by decide,Tryz.func255.trans (congrArg some (by kernel_rfl))⟩
 f23:=⟨Tryz.f256.name,by decide,Tryz.func256.trans (congrArg some (by kernel_rfl))⟩
 f24:=⟨Tryz.f257.name,by decide,Tryz.func257.trans (congrArg some (by kernel_rfl))⟩
 f25:=⟨Tryz.f258.name,by decide,Tryz.func258.trans (congrArg some (by kernel_rfl))⟩
 f26:=⟨Tryz.f259.name,by decide,Tryz.func259.trans (congrArg some (by kernel_rfl))⟩
 f27:=⟨Tryz.f260.name,by decide,Tryz.func260.trans (congrArg some (by kernel_rfl))⟩
 f28:=Tryz.func251.trans (congrArg some (by kernel_rfl))
 f29:=Tryz.func252.trans (congrArg some (by kernel_rfl))
 f46:=⟨Tryz.f302.name,by decide,Tryz.func302.trans (congrArg some (by kernel_rfl))⟩
 f47:=Tryz.func298.trans (congrArg some (by kernel_rfl))
 f48:=Tryz.func299.trans (congrArg some (by kernel_rfl))
 f49:=⟨Tryz.f303.name,by decide,Tryz.func303.trans (congrArg some (by kernel_rfl))⟩
 f50:=⟨Tryz.f304.name,by decide,Tryz.func304.trans (congrArg some (by kernel_rfl))⟩
 f57:=⟨Tryz.f329.name,by decide,Tryz.func329.trans (congrArg some (by kernel_rfl))⟩
 t0:=Tryz.underlying0
 a0:=Tryz.isAgg0
 z0:=Tryz.sizeOf0
 v0:=Tryz.zeroValue0
 t3:=Tryz.underlying3
 a3:=Tryz.isAgg3
 z3:=Tryz.sizeOf3
 v3:=Tryz.zeroValue3
 t4:=Tryz.underlying4
 a4:=Tryz.isAgg4
 z4:=Tryz.sizeOf4
 v4:=Tryz.zeroValue4
 t5:=Tryz.underlying5
 a5:=Tryz.isAgg5
 z5:=Tryz.sizeOf5
 v5:=Tryz.zeroValue5
 t9:=Tryz.underlying9
 a9:=Tryz.isAgg9
 z9:=Tryz.sizeOf9
 v9:=Tryz.zeroValue9
 t22:=Tryz.underlying82
 a22:=Tryz.isAgg82
 z22:=Tryz.sizeOf82
 v22:=Tryz.zeroValue82
 a24:=Tryz.isAgg73
 z24:=Tryz.sizeOf73
 t25:=Tryz.underlying237
 a25:=Tryz.isAgg237
 z25:=Tryz.sizeOf237
 v25:=Tryz.zeroValue237
 t39:=Tryz.underlying291
 a39:=Tryz.isAgg291
 z39:=Tryz.sizeOf291
 v39:=Tryz.zeroValue291
 t45:=Tryz.underlying321
 a45:=Tryz.isAgg321
 z45:=Tryz.sizeOf321
 v45:=Tryz.zeroValue321
 t46:=Tryz.underlying322
 a46:=Tryz.isAgg322
 z46:=Tryz.sizeOf322
 v46:=Tryz.zeroValue322
 t50:=Tryz.underlying205
 a50:=Tryz.isAgg205
 z50:=Tryz.sizeOf205
 v50:=Tryz.zeroValue205
 t53:=Tryz.underlying328
 a53:=Tryz.isAgg328
 z53:=Tryz.sizeOf328
 v53:=Tryz.zeroValue328
 t55:=Tryz.underlying243
 a55:=Tryz.isAgg243
 z55:=Tryz.sizeOf243
 v55:=Tryz.zeroValue243
 t66:=Tryz.underlying363
 a66:=Tryz.isAgg363
 z66:=Tryz.sizeOf363
 v66:=Tryz.zeroValue363
 t70:=Tryz.underlying367
 a70:=Tryz.isAgg367
 z70:=Tryz.sizeOf367
 v70:=Tryz.zeroValue367
 t76:=Tryz.underlying386
 a76:=Tryz.isAgg386
 z76:=Tryz.sizeOf386
 v76:=Tryz.zeroValue386
 t77:=Tryz.underlying387
 a77:=Tryz.isAgg387
 z77:=Tryz.sizeOf387
 v77:=Tryz.zeroValue387}
def Tryz.afa:Go.Shelf.Ren:=⟨fun|6=>149|15=>199|14=>200|28=>251|29=>252|20=>253|21=>254|22=>255|23=>256|24=>257|25=>258|26=>259|27=>260|46=>302|47=>298|48=>299|49=>303|50=>304|57=>329|n=>n,fun|22=>82|24=>73|25=>237|3=>3|39=>291|0=>0|53=>328|55=>243|4=>4|46=>322|45=>321|50=>205|5=>5|9=>9|66=>363|70=>367|76=>386|77=>387|n=>n,fun|n=>n⟩
theorem Tryz.ae':Go.Proofs.SlLaysF0.n6 Tryz.prog Tryz.afa:={
 mixed:=by kernel_rfl
 f6:=⟨Tryz.f149.name,by decide,Tryz.func149.trans (congrArg some (by kernel_rfl))⟩
 f14:=⟨Tryz.f200.name,by decide,Tryz.func200.trans (congrArg some (by kernel_rfl))⟩
 f15:=Tryz.func199.trans (congrArg some (by kernel_rfl))
 f20:=⟨Tryz.f253.name,by decide,Tryz.func253.trans (congrArg some (by kernel_rfl))⟩
 f21:=⟨Tryz.f254.name,by decide,Tryz.func254.trans (congrArg some (by kernel_rfl))⟩
 f22:=⟨Tryz.f255.name,by decide,Tryz.func255.trans (congrArg some (by kernel_rfl))⟩
 f23:=⟨Tryz.f256.name,by decide,Tryz.func256.trans (congrArg some (by kernel_rfl))⟩
 f24:=⟨Tryz.f257.name,by decide,Tryz.func257.trans (congrArg some (by kernel_rfl))⟩
 f25:=⟨Tryz.f258.name,by decide,Tryz.func258.trans (congrArg some (by kernel_rfl))⟩
 f26:=⟨Tryz.f259.name,by decide,Tryz.func259.trans (congrArg some (by kernel_rfl))⟩
 f27:=⟨Tryz.f260.name,by decide,Tryz.func260.trans (congrArg some (by kernel_rfl))⟩
 f28:=Tryz.func251.trans (congrArg some (by kernel_rfl))
 f29:=Tryz.func252.trans (congrArg some (by kernel_rfl))
 f46:=⟨Tryz.f302.name,by decide,Tryz.func302.trans (congrArg some (by kernel_rfl))⟩
 f47:=Tryz.func298.trans (congrArg some (by kernel_rfl))
 f48:=Tryz.func299.trans (congrArg some (by kernel_rfl))
 f49:=⟨Tryz.f303.name,by decide,Tryz.func303.trans (congrArg some (by kernel_rfl))⟩
 f50:=⟨Tryz.f304.name,by decide,Tryz.func304.trans (congrArg some (by kernel_rfl))⟩
 f57:=⟨Tryz.f329.name,by decide,Tryz.func329.trans (congrArg some (by kernel_rfl))⟩
 t0:=Tryz.underlying0
 a0:=Tryz.isAgg0
 z0:=Tryz.sizeOf0
 v0:=Tryz.zeroValue0
 t3:=Tryz.underlying3
 a3:=Tryz.isAgg3
 z3:=Tryz.sizeOf3
 v3:=Tryz.zeroValue3
 t4:=Tryz.underlying4
 a4:=Tryz.isAgg4
 z4:=Tryz.sizeOf4
 v4:=Tryz.zeroValue4
 t5:=Tryz.underlying5
 a5:=Tryz.isAgg5
 z5:=Tryz.sizeOf5
 v5:=Tryz.zeroValue5
 t9:=Tryz.underlying9
 a9:=Tryz.isAgg9
 z9:=Tryz.sizeOf9
 v9:=Tryz.zeroValue9
 t22:=Tryz.underlying82
 a22:=Tryz.isAgg82
 z22:=Tryz.sizeOf82
 v22:=Tryz.zeroValue82
 t25:=Tryz.underlying237
 a25:=Tryz.isAgg237
 z25:=Tryz.sizeOf237
 v25:=Tryz.zeroValue237
 t39:=Tryz.underlying291
 a39:=Tryz.isAgg291
 z39:=Tryz.sizeOf291
 v39:=Tryz.zeroValue291
 t45:=Tryz.underlying321
 a45:=Tryz.isAgg321
 z45:=Tryz.sizeOf321
 v45:=Tryz.zeroValue321
 t46:=Tryz.underlying322
 a46:=Tryz.isAgg322
 z46:=Tryz.sizeOf322
 v46:=Tryz.zeroValue322
 t50:=Tryz.underlying205
 a50:=Tryz.isAgg205
 z50:=Tryz.sizeOf205
 v50:=Tryz.zeroValue205
 t53:=Tryz.underlying328
 a53:=Tryz.isAgg328
 z53:=Tryz.sizeOf328
 v53:=Tryz.zeroValue328
 t55:=Tryz.underlying243
 a55:=Tryz.isAgg243
 z55:=Tryz.sizeOf243
 v55:=Tryz.zeroValue243
 t66:=Tryz.underlying363
 a66:=Tryz.isAgg363
 z66:=Tryz.sizeOf363
 v66:=Tryz.zeroValue363
 t70:=Tryz.underlying367
 a70:=Tryz.isAgg367
 z70:=Tryz.sizeOf367
 v70:=Tryz.zeroValue367
 t76:=Tryz.underlying386
 a76:=Tryz.isAgg386
 z76:=Tryz.sizeOf386
 v76:=Tryz.zeroValue386
 t77:=Tryz.underlying387
 a77:=Tryz.isAgg387
 z77:=Tryz.sizeOf387
 v77:=Tryz.zeroValue387}
open Go.RowKit Go.Lib Go.Sort in
theorem Tryz.slices_SortFunc_none{α:Type}[Inhabited α](p:Option Addr)(cap:Nat)(fv:Value)(w:World):
  Calls Tryz.prog 149 #[.slice p 0 cap,fv] w fun e w'=>e=.returned (.tuple #[])∧w'=w:=AnyF.slices_SortFunc_none Tryz.ae' p cap fv w
open Go.RowKit Go.Lib Go.Sort in
theorem Tryz.slices_SortFunc_total{α:Type}[Inhabited α](enc:α→Value)(h1:OneCell enc)(cf:α→α→Int)(hO:SWO (ltOf cf))(g:Nat)(cb:Array Value)(bw off cap:Nat)(d:Array α)(w:World)(eg:∀args w,(callFunc g args).run Tryz.prog w=.ok (.enter g args) w)(I2:CmpLays1 Tryz.prog g cb enc cf bw off d.size w)(hH:Holds enc w bw off d)(mw:bw<w.heap.size)(aY:d.size<4611686018427387904)(hT:∀x y,(ltOf cf) x y=false→(ltOf cf) y x=false→x=y):
  Calls Tryz.prog 149 #[.slice (some ⟨bw,off,none⟩) d.size cap,.func (.func g) #[] cb] w fun e w'=>
   e=.returned (.tuple #[])∧∃n os,w'=sortWorld enc w bw off n (d.toList.mergeSort fun x y=>!(ltOf cf) y x).toArray os:=Any.slices_SortFunc_total Tryz.afb enc h1 cf hO g cb bw off cap d w eg I2 hH mw aY hT
end Go.Proofs

