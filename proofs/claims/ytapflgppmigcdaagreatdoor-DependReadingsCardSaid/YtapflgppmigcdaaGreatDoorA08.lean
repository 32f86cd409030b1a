/- Contracts of functions that the statement reaches, and the logic in which they are proved (no condition). -/
import Derived.Test.YtapflgppmigcdaaGreatDoorA07
import Derived.Shelf.Strings.Builder1
import Derived.Shelf.Strings.Builder2
import Derived.Shelf.Strings.Trim
import Derived.Shelf.Small.Utf8
import Derived.Shelf.Small.Bits
import Derived.Shelf.Small.Strs
import Derived.Shelf.Small.Wraps
import Derived.Shelf.Strings.BuilderF
import Derived.Shelf.Strings.BuilderK
import Derived.Shelf.Utf8.RuneCount
import Derived.Shelf.Strconv.Atoi
import Derived.Shelf.Strconv.Itoa0
import Derived.Shelf.Strconv.Itoa1
import Derived.Shelf.LaysM
import Derived.Shelf.Strconv.Itoa2
import Derived.Shelf.Strconv.Itoa3
import Derived.Shelf.Strconv.AtoiErrFast
import Derived.Shelf.Strconv.ParseIntEmpty
import Derived.Shelf.Strconv.AtoiFail
import Derived.Shelf.Strconv.Clone
import Derived.Shelf.Strconv.SyntaxError
import Derived.Shelf.LaysC
import Derived.Shelf.Strconv.ToError
import Derived.Shelf.Strconv.Lower
import Derived.Shelf.Strconv.ParseUint10
import Derived.Shelf.Strconv.ParseUint10Empty
import Derived.Shelf.Strconv.ParseUint10Any
import Derived.Shelf.Strconv.ParseInt10
import Derived.Shelf.Strconv.AtoiLong
import Derived.Shelf.Strconv.AtoiInnerAll
import Derived.Shelf.Strconv.RangeError
import Derived.Shelf.Strconv.ToErrorRange
import Derived.Shelf.Strconv.AtoiAll
import Derived.Shelf.Strconv.ParseUint10b64
import Derived.Ground.MpProg
import Derived.Shelf.Pu.ParseUintPublic10
import Derived.Shelf.Strings.Search1
import Derived.Shelf.Strings.Search2
import Derived.Shelf.Strings.Search3
import Derived.Shelf.Strings.Cut
import Derived.Shelf.Strings.Count
import Derived.Shelf.Strings.Shaped
import Derived.Shelf.Strings.Prefix
import Derived.Shelf.Strings.Split
import Derived.Shelf.Strings.SplitShaped
import Derived.Shelf.Unicode.Decode
import Derived.Shelf.Strings.Runes
import Derived.Shelf.Strings.RuneCount
import Derived.Shelf.Strings.AsciiSet
import Derived.Shelf.Strings.Explode
import Derived.Shelf.Bits.Mul64
import Derived.Shelf.Strings.Repeat
import Derived.Shelf.Unicode.DecodeSlow
import Derived.Shelf.Unicode.DecodeAny
import Derived.Shelf.Unicode.DecodeLast
import Derived.Shelf.Slices.CompactS
import Derived.Ground.Names2Prog
import Derived.Shelf.Slices.SearchI
import Derived.Shelf.Slices.Cells
import Derived.Ground.SlsfProg
import Derived.Shelf.SlSortCmp.Insertion
import Derived.Ground.SlgmProg
import Derived.Shelf.SortM.Plain
import Derived.Shelf.SortM.SortNone
import Derived.Shelf.SlSortCmp.SiftDown1
import Derived.Shelf.SlSortCmp.HeapSort1
import Derived.Shelf.SlSortCmp.Insertion1
import Derived.Shelf.SlSortCmp.Median1
import Derived.Shelf.SlSortCmp.Pivot1
import Derived.Shelf.SlSortCmp.ReverseRange1
import Derived.Shelf.SlSortCmp.PartialInsertion1
import Derived.Shelf.SlSortCmp.PartitionEqual1
import Derived.Shelf.SlSortCmp.Partition1
import Derived.Shelf.SlSortCmp.Pdq1
import Derived.Shelf.SlSortCmp.Whole1
import Derived.Shelf.SlSortCmp.NoneTotal
import Derived.WalkKit
import Derived.BigCall
import Derived.BigGuard
import Derived.Lib.ItoaMem
import Derived.Lib.Walk
import Derived.Shelf.Strings.SlTrimAscii
set_option linter.all false
set_option maxRecDepth 20000
namespace Go.Proofs
open Go.Shelf
def Tryz.ale:Go.Shelf.Ren:=⟨fun|161=>325|231=>226|227=>228|233=>229|235=>231|228=>273|197=>263|151=>274|260=>299|152=>315|137=>341|119=>342|224=>302|225=>301|217=>300|266=>336|n=>n,fun|9=>9|4=>4|3=>3|5=>5|117=>232|116=>231|0=>0|124=>235|105=>270|21=>21|119=>318|46=>142|139=>321|138=>320|n=>n,fun|3=>1|4=>2|n=>n⟩
def Tryz.ald:Go.Proofs.Lays.n161 Tryz.prog Tryz.ale:={
 mixed:=by kernel_rfl
 f119:=Tryz.func342.trans (aT some LW)
 f137:=Tryz.func341.trans (aT some LW)
 f151:=Tryz.func274.trans (aT some LW)
 f152:=Tryz.func315.trans (aT some LW)
 f161:=Tryz.func325.trans (aT some LW)
 f197:=Tryz.func263.trans (aT some LW)
 f217:=Tryz.func300.trans (aT some LW)
 f224:=Tryz.func302.trans (aT some LW)
 f225:=Tryz.func301.trans (aT some LW)
 f227:=Tryz.func228.trans (aT some LW)
 f228:=Tryz.func273.trans (aT some LW)
 f231:=Tryz.func226.trans (aT some LW)
 f233:=Tryz.func229.trans (aT some LW)
 f235:=Tryz.func231.trans (aT some LW)
 f260:=Tryz.func299.trans (aT some LW)
 f266:=Tryz.func336.trans (aT some LW)
 t0:=Tryz.underlying0
 a0:=Tryz.isAgg0
 z0:=Tryz.sizeOf0
 v0:=Tryz.zeroValue0
 t3:=Tryz.underlying3
 a3:=Tryz.isAgg3
 z3:=Tryz.sizeOf3
 v3:=Tryz.zeroValue3
 t4:=Tryz.underlying4
 a4:=Tryz.isAgg4
 z4:=Tryz.sizeOf4
 v4:=Tryz.zeroValue4
 t5:=Tryz.underlying5
 a5:=Tryz.isAgg5
 z5:=Tryz.sizeOf5
 v5:=Tryz.zeroValue5
 t9:=Tryz.underlying9
 a9:=Tryz.isAgg9
 z9:=Tryz.sizeOf9
 v9:=Tryz.zeroValue9
 t21:=Tryz.underlying21
 a21:=Tryz.isAgg21
 z21:=Tryz.sizeOf21
 v21:=Tryz.zeroValue21
 t46:=Tryz.underlying142
 a46:=Tryz.isAgg142
 z46:=Tryz.sizeOf142
 v46:=Tryz.zeroValue142
 t105:=Tryz.underlying270
 a105:=Tryz.isAgg270
 z105:=Tryz.sizeOf270
 v105:=Tryz.zeroValue270
 t116:=Tryz.underlying231
 a116:=Tryz.isAgg231
 z116:=Tryz.sizeOf231
 t117:=Tryz.underlying232
 a117:=Tryz.isAgg232
 z117:=Tryz.sizeOf232
 v117:=Tryz.zeroValue232
 t119:=Tryz.underlying318
 a119:=Tryz.isAgg318
 z119:=Tryz.sizeOf318
 t124:=Tryz.underlying235
 a124:=Tryz.isAgg235
 z124:=Tryz.sizeOf235
 v124:=Tryz.zeroValue235
 t138:=Tryz.underlying320
 a138:=Tryz.isAgg320
 z138:=Tryz.sizeOf320
 v138:=Tryz.zeroValue320
 t139:=Tryz.underlying321
 a139:=Tryz.isAgg321
 z139:=Tryz.sizeOf321
 v139:=Tryz.zeroValue321
 g3:=by kernel_rfl
 g4:=by kernel_rfl}
open Go.RowKit in
theorem Tryz.strings_TrimLeft_one(s:ByteArray)(c:UInt8)(hc:c.toNat<128)(w:World):
  Calls Tryz.prog 325 #[.string s,.string ⟨#[c]⟩] w fun e w'=>e=.returned (.string ⟨(Lib.trimLeftB s.data.toList c).toArray⟩)/\w'=w:=Any.strings_TrimLeft_one Tryz.ald s c hc w
def Tryz.alc:Go.Shelf.Ren:=⟨fun|160=>180|232=>227|231=>226|227=>228|234=>230|233=>229|236=>232|235=>231|228=>273|271=>275|151=>274|197=>263|120=>316|152=>315|260=>299|137=>341|119=>342|224=>302|225=>301|217=>300|266=>336|n=>n,fun|9=>9|4=>4|3=>3|5=>5|117=>232|116=>231|0=>0|124=>235|21=>21|105=>270|46=>142|119=>318|139=>321|138=>320|n=>n,fun|3=>1|4=>2|n=>n⟩
def Tryz.WK:Go.Proofs.Lays.n160 Tryz.prog Tryz.alc:={
 mixed:=by kernel_rfl
 f119:=Tryz.func342.trans (aT some LW)
 f120:=Tryz.func316.trans (aT some LW)
 f137:=Tryz.func341.trans (aT some LW)
 f151:=Tryz.func274.trans (aT some LW)
 f152:=Tryz.func315.trans (aT some LW)
 f160:=Tryz.func180.trans (aT some LW)
 f197:=Tryz.func263.trans (aT some LW)
 f217:=Tryz.func300.trans (aT some LW)
 f224:=Tryz.func302.trans (aT some LW)
 f225:=Tryz.func301.trans (aT some LW)
 f227:=Tryz.func228.trans (aT some LW)
 f228:=Tryz.func273.trans (aT some LW)
 f231:=Tryz.func226.trans (aT some LW)
 f232:=Tryz.func227.trans (aT some LW)
 f233:=Tryz.func229.trans (aT some LW)
 f234:=Tryz.func230.trans (aT some LW)
 f235:=Tryz.func231.trans (aT some LW)
 f236:=Tryz.func232.trans (aT some LW)
 f260:=Tryz.func299.trans (aT some LW)
 f266:=Tryz.func336.trans (aT some LW)
 f271:=Tryz.func275.trans (aT some LW)
 t0:=Tryz.underlying0
 a0:=Tryz.isAgg0
 z0:=Tryz.sizeOf0
 v0:=Tryz.zeroValue0
 t3:=Tryz.underlying3
 a3:=Tryz.isAgg3
 z3:=Tryz.sizeOf3
 v3:=Tryz.zeroValue3
 t4:=Tryz.underlying4
 a4:=Tryz.isAgg4
 z4:=Tryz.sizeOf4
 v4:=Tryz.zeroValue4
 t5:=Tryz.underlying5
 a5:=Tryz.isAgg5
 z5:=Tryz.sizeOf5
 v5:=Tryz.zeroValue5
 t9:=Tryz.underlying9
 a9:=Tryz.isAgg9
 z9:=Tryz.sizeOf9
 v9:=Tryz.zeroValue9
 t21:=Tryz.underlying21
 a21:=Tryz.isAgg21
 z21:=Tryz.sizeOf21
 v21:=Tryz.zeroValue21
 t46:=Tryz.underlying142
 a46:=Tryz.isAgg142
 z46:=Tryz.sizeOf142
 v46:=Tryz.zeroValue142
 t105:=Tryz.underlying270
 a105:=Tryz.isAgg270
 z105:=Tryz.sizeOf270
 v105:=Tryz.zeroValue270
 t116:=Tryz.underlying231
 a116:=Tryz.isAgg231
 z116:=Tryz.sizeOf231
 t117:=Tryz.underlying232
 a117:=Tryz.isAgg232
 z117:=Tryz.sizeOf232
 v117:=Tryz.zeroValue232
 t119:=Tryz.underlying318
 a119:=Tryz.isAgg318
 z119:=Tryz.sizeOf318
 t124:=Tryz.underlying235
 a124:=Tryz.isAgg235
 z124:=Tryz.sizeOf235
 v124:=Tryz.zeroValue235
 t138:=Tryz.underlying320
 a138:=Tryz.isAgg320
 z138:=Tryz.sizeOf320
 v138:=Tryz.zeroValue320
 t139:=Tryz.underlying321
 a139:=Tryz.isAgg321
 z139:=Tryz.sizeOf321
 v139:=Tryz.zeroValue321
 g3:=by kernel_rfl
 g4:=by kernel_rfl}
def Tryz.ala:Go.Shelf.Ren:=⟨fun|103=>324|210=>349|206=>314|n=>n,fun|9=>9|4=>4|24=>161|3=>3|n=>n,fun|n=>n⟩
def Tryz.ak':Go.Proofs.Lays.n103 Tryz.prog Tryz.ala:={
 mixed:=by kernel_rfl
 f103:=Tryz.func324.trans (aT some LW)
 f206:=Tryz.func314.trans (aT some LW)
 f210:=Tryz.func349.trans (aT some LW)
 t3:=Tryz.underlying3
 a3:=Tryz.isAgg3
 z3:=Tryz.sizeOf3
 v3:=Tryz.zeroValue3
 t4:=Tryz.underlying4
 a4:=Tryz.isAgg4
 z4:=Tryz.sizeOf4
 v4:=Tryz.zeroValue4
 t9:=Tryz.underlying9
 a9:=Tryz.isAgg9
 z9:=Tryz.sizeOf9
 v9:=Tryz.zeroValue9
 t24:=Tryz.underlying161
 a24:=Tryz.isAgg161
 z24:=Tryz.sizeOf161
 v24:=Tryz.zeroValue161}
open Go.RowKit in
theorem Tryz.strings_CutPrefix(s p:ByteArray)(w:World):
  Calls Tryz.prog 324 #[.string s,.string p] w fun e w'=>e=.returned (.tuple #[.string ⟨(Lib.trimPrefix s.data.toList p.data.toList).toArray⟩,.bool (Lib.hasPrefix s.data.toList p.data.toList)])/\w'=w:=Any.strings_CutPrefix Tryz.ak' s p w
def Tryz.alk:Go.Shelf.Ren:=⟨fun|283=>345|n=>n,fun|3=>3|9=>9|4=>4|n=>n,fun|n=>n⟩
def Tryz.alj:Go.Proofs.Lays.n283 Tryz.prog Tryz.alk:={
 mixed:=by kernel_rfl
 f283:=Tryz.func345.trans (aT some LW)
 t3:=Tryz.underlying3
 a3:=Tryz.isAgg3
 z3:=Tryz.sizeOf3
 v3:=Tryz.zeroValue3
 t4:=Tryz.underlying4
 a4:=Tryz.isAgg4
 z4:=Tryz.sizeOf4
 v4:=Tryz.zeroValue4
 t9:=Tryz.underlying9
 a9:=Tryz.isAgg9
 z9:=Tryz.sizeOf9
 v9:=Tryz.zeroValue9}
open Go.Lib in
theorem Tryz.internal_strconv_small(i:Nat)(h:i<100)(w:World):
  Calls Tryz.prog 345 #[.int .i64 i] w fun e w'=>e=.returned (.string ⟨(Lib.decDigits i).toArray⟩)/\w'=w:=Any.internal_strconv_small Tryz.alj i h w
def Tryz.als:Go.Shelf.Ren:=⟨fun|284=>346|129=>158|317=>359|318=>360|n=>n,fun|53=>184|3=>3|212=>350|0=>0|4=>4|46=>142|5=>5|9=>9|n=>n,fun|17=>5|n=>n⟩
def Tryz.alr:Go.Proofs.LaysM.n284 Tryz.prog Tryz.als:={
 mixed:=by kernel_rfl
 f129:=Tryz.func158.trans (aT some LW)
 f284:=Tryz.func346.trans (aT some LW)
 f317:=Tryz.func359.trans (aT some LW)
 f318:=Tryz.func360.trans (aT some LW)
 t0:=Tryz.underlying0
 a0:=Tryz.isAgg0
 z0:=Tryz.sizeOf0
 v0:=Tryz.zeroValue0
 t3:=Tryz.underlying3
 a3:=Tryz.isAgg3
 z3:=Tryz.sizeOf3
 v3:=Tryz.zeroValue3
 t4:=Tryz.underlying4
 a4:=Tryz.isAgg4
 z4:=Tryz.sizeOf4
 v4:=Tryz.zeroValue4
 t5:=Tryz.underlying5
 a5:=Tryz.isAgg5
 z5:=Tryz.sizeOf5
 v5:=Tryz.zeroValue5
 t9:=Tryz.underlying9
 a9:=Tryz.isAgg9
 z9:=Tryz.sizeOf9
 v9:=Tryz.zeroValue9
 t46:=Tryz.underlying142
 a46:=Tryz.isAgg142
 z46:=Tryz.sizeOf142
 v46:=Tryz.zeroValue142
 t53:=Tryz.underlying184
 a53:=Tryz.isAgg184
 z53:=Tryz.sizeOf184
 v53:=Tryz.zeroValue184
 t212:=Tryz.underlying350
 a212:=Tryz.isAgg350
 z212:=Tryz.sizeOf350
 v212:=Tryz.zeroValue350
 g17:=by kernel_rfl
 i0:=by kernel_rfl
 i3:=by kernel_rfl
 i4:=by kernel_rfl
 i5:=by kernel_rfl
 i9:=by kernel_rfl
 i46:=by kernel_rfl
 i53:=by kernel_rfl
 i212:=by kernel_rfl
 m17:=by kernel_rfl}
open Go.Lib in
theorem Tryz.internal_strconv_numDigits(u:Nat)(h1:1<=u)(h2:u<18446744073709551616)(w:World)(DM:Lib.TabIs Tryz.prog w "internal/strconv.uint64pow10" .u64 Lib.pow10Tab):
  Calls Tryz.prog 346 #[.int .u64 u] w fun e w'=>e=.returned (.int .i64 (Lib.nDigits u))/\w'=w:=Any.internal_strconv_numDigits Tryz.alr u h1 h2 w DM
def Tryz.aln:Go.Shelf.Ren:=⟨fun|285=>347|n=>n,fun|37=>152|53=>184|3=>3|4=>4|51=>182|9=>9|5=>5|0=>0|n=>n,fun|n=>n⟩
def Tryz.alm:Go.Proofs.Lays.n285 Tryz.prog Tryz.aln:={
 mixed:=by kernel_rfl
 f285:=Tryz.func347.trans (aT some LW)
 t0:=Tryz.underlying0
 a0:=Tryz.isAgg0
 z0:=Tryz.sizeOf0
 v0:=Tryz.zeroValue0
 t3:=Tryz.underlying3
 a3:=Tryz.isAgg3
 z3:=Tryz.sizeOf3
 v3:=Tryz.zeroValue3
 t4:=Tryz.underlying4
 a4:=Tryz.isAgg4
 z4:=Tryz.sizeOf4
 v4:=Tryz.zeroValue4
 t5:=Tryz.underlying5
 a5:=Tryz.isAgg5
 z5:=Tryz.sizeOf5
 v5:=Tryz.zeroValue5
 t9:=Tryz.underlying9
 a9:=Tryz.isAgg9
 z9:=Tryz.sizeOf9
 v9:=Tryz.zeroValue9
 t37:=Tryz.underlying152
 a37:=Tryz.isAgg152
 z37:=Tryz.sizeOf152
 v37:=Tryz.zeroValue152
 t51:=Tryz.underlying182
 a51:=Tryz.isAgg182
 z51:=Tryz.sizeOf182
 v51:=Tryz.zeroValue182
 t53:=Tryz.underlying184
 a53:=Tryz.isAgg184
 z53:=Tryz.sizeOf184
 v53:=Tryz.zeroValue184}
open Go.RowKit Go.Sort Go.Lib in
theorem Tryz.internal_strconv_formatBase10(cp off cap:Nat)(u:Nat)(d:Array UInt8)(w:World)(hH:Holds (fun(b:UInt8)=>Value.int .u8 (b.toNat:Int)) w cp off d)(hu:u<10^d.size)(DQ:u<18446744073709551616)(bb:d.size<4611686018427387904):
  Calls Tryz.prog 347 #[.slice (some ⟨cp,off,none⟩) d.size cap,.int .u64 u] w fun e w'=>
   e=.returned (.tuple #[])/\∃(n v':Nat) (dk:Array UInt8),w'=(putRow (fun(b:UInt8)=>Value.int .u8 (b.toNat:Int)) w cp off dk).drewN n/\FmtInv d.size u 0 v' dk:=Any.internal_strconv_formatBase10 Tryz.alm cp off cap u d w hH hu DQ bb
def Tryz.alq:Go.Shelf.Ren:=⟨fun|171=>235|243=>279|246=>322|283=>345|284=>346|285=>347|286=>348|129=>158|317=>359|318=>360|319=>361|320=>362|337=>365|338=>366|n=>n,fun|3=>3|9=>9|2=>2|4=>4|171=>333|0=>0|53=>184|37=>152|5=>5|173=>335|212=>350|51=>182|20=>20|213=>351|46=>142|232=>355|233=>356|n=>n,fun|17=>5|18=>6|19=>7|n=>n⟩
def Tryz.alp:Go.Proofs.LaysM.n171 Tryz.prog Tryz.alq:={
 mixed:=by kernel_rfl
 f129:=Tryz.func158.trans (aT some LW)
 f171:=Tryz.func235.trans (aT some LW)
 f243:=Tryz.func279.trans (aT some LW)
 f246:=Tryz.func322.trans (aT some LW)
 f283:=Tryz.func345.trans (aT some LW)
 f284:=Tryz.func346.trans (aT some LW)
 f285:=Tryz.func347.trans (aT some LW)
 f286:=Tryz.func348.trans (aT some LW)
 f317:=Tryz.func359.trans (aT some LW)
 f318:=Tryz.func360.trans (aT some LW)
 f319:=Tryz.func361.trans (aT some LW)
 f320:=Tryz.func362.trans (aT some LW)
 f337:=Tryz.func365.trans (aT some LW)
 f338:=Tryz.func366.trans (aT some LW)
 t0:=Tryz.underlying0
 a0:=Tryz.isAgg0
 z0:=Tryz.sizeOf0
 v0:=Tryz.zeroValue0
 t2:=Tryz.underlying2
 a2:=Tryz.isAgg2
 z2:=Tryz.sizeOf2
 v2:=Tryz.zeroValue2
 t3:=Tryz.underlying3
 a3:=Tryz.isAgg3
 z3:=Tryz.sizeOf3
 v3:=Tryz.zeroValue3
 t4:=Tryz.underlying4
 a4:=Tryz.isAgg4
 z4:=Tryz.sizeOf4
 v4:=Tryz.zeroValue4
 t5:=Tryz.underlying5
 a5:=Tryz.isAgg5
 z5:=Tryz.sizeOf5
 v5:=Tryz.zeroValue5
 t9:=Tryz.underlying9
 a9:=Tryz.isAgg9
 z9:=Tryz.sizeOf9
 v9:=Tryz.zeroValue9
 t20:=Tryz.underlying20
 a20:=Tryz.isAgg20
 z20:=Tryz.sizeOf20
 v20:=Tryz.zeroValue20
 t37:=Tryz.underlying152
 a37:=Tryz.isAgg152
 z37:=Tryz.sizeOf152
 v37:=Tryz.zeroValue152
 t46:=Tryz.underlying142
 a46:=Tryz.isAgg142
 z46:=Tryz.sizeOf142
 v46:=Tryz.zeroValue142
 t51:=Tryz.underlying182
 a51:=Tryz.isAgg182
 z51:=Tryz.sizeOf182
 v51:=Tryz.zeroValue182
 t53:=Tryz.underlying184
 a53:=Tryz.isAgg184
 z53:=Tryz.sizeOf184
 v53:=Tryz.zeroValue184
 t171:=Tryz.underlying333
 a171:=Tryz.isAgg333
 z171:=Tryz.sizeOf333
 v171:=Tryz.zeroValue333
 t173:=Tryz.underlying335
 a173:=Tryz.isAgg335
 z173:=Tryz.sizeOf335
 v173:=Tryz.zeroValue335
 t212:=Tryz.underlying350
 a212:=Tryz.isAgg350
 z212:=Tryz.sizeOf350
 v212:=Tryz.zeroValue350
 t213:=Tryz.underlying351
 a213:=Tryz.isAgg351
 z213:=Tryz.sizeOf351
 t232:=Tryz.underlying355
 a232:=Tryz.isAgg355
 z232:=Tryz.sizeOf355
 v232:=Tryz.zeroValue355
 t233:=Tryz.underlying356
 a233:=Tryz.isAgg356
 z233:=Tryz.sizeOf356
 v233:=Tryz.zeroValue356
 g17:=by kernel_rfl
 g18:=by kernel_rfl
 g19:=by kernel_rfl
 i0:=by kernel_rfl
 i2:=by kernel_rfl
 i3:=by kernel_rfl
 i4:=by kernel_rfl
 i5:=by kernel_rfl
 i9:=by kernel_rfl
 i20:=by kernel_rfl
 i37:=by kernel_rfl
 i46:=by kernel_rfl
 i51:=by kernel_rfl
 i53:=by kernel_rfl
 i171:=by kernel_rfl
 i173:=by kernel_rfl
 i212:=by kernel_rfl
 i232:=by kernel_rfl
 i233:=by kernel_rfl
 m17:=by kernel_rfl
 m18:=by kernel_rfl
 m19:=by kernel_rfl}
open Go.RowKit Go.Sort Go.Lib in
theorem Tryz.strconv_Itoa(n:Int)(h0:-9223372036854775808<=n)(h1:n<=9223372036854775807)(w:World)(DM:Lib.TabIs Tryz.prog w "internal/strconv.uint64pow10" .u64 Lib.pow10Tab):
  Calls Tryz.prog 235 #[.int .i64 n] w fun e w'=>e=.returned (.string ⟨(Lib.itoa n).toArray⟩)/\∃k os,w'=grow (w.drewN k) os:=Any.strconv_Itoa Tryz.alp n h0 h1 w DM
def Tryz.alo:Go.Shelf.Ren:=⟨fun|172=>234|244=>277|245=>278|247=>317|279=>318|280=>319|281=>320|282=>321|287=>326|316=>343|171=>235|205=>344|321=>350|322=>351|243=>279|246=>322|283=>345|284=>346|285=>347|286=>348|129=>158|317=>359|318=>360|319=>361|320=>362|337=>365|338=>366|n=>n,fun|9=>9|3=>3|75=>239|76=>240|4=>4|5=>5|167=>304|37=>152|0=>0|85=>305|2=>2|168=>307|53=>184|175=>286|46=>142|210=>331|127=>316|145=>348|143=>346|21=>21|171=>333|173=>335|212=>350|51=>182|20=>20|213=>351|232=>355|233=>356|80=>295|n=>n,fun|15=>3|16=>4|17=>5|18=>6|19=>7|n=>n⟩
def Tryz.NN:Go.Proofs.LaysC.n172 Tryz.prog Tryz.alo:={
 mixed:=by kernel_rfl
 f129:=Tryz.func158.trans (aT some LW)
 f171:=Tryz.func235.trans (aT some LW)
 f172:=Tryz.func234.trans (aT some LW)
 f205:=Tryz.func344.trans (aT some LW)
 f243:=Tryz.func279.trans (aT some LW)
 f244:=Tryz.func277.trans (aT some LW)
 f245:=Tryz.func278.trans (aT some LW)
 f246:=Tryz.func322.trans (aT some LW)
 f247:=Tryz.func317.trans (aT some LW)
 f279:=Tryz.func318.trans (aT some LW)
 f280:=Tryz.func319.trans (aT some LW)
 f281:=Tryz.func320.trans (aT some LW)
 f282:=Tryz.func321.trans (aT some LW)
 f283:=Tryz.func345.trans (aT some LW)
 f284:=Tryz.func346.trans (aT some LW)
 f285:=Tryz.func347.trans (aT some LW)
 f286:=Tryz.func348.trans (aT some LW)
 f287:=Tryz.func326.trans (aT some LW)
 f316:=Tryz.func343.trans (aT some LW)
 f317:=Tryz.func359.trans (aT some LW)
 f318:=Tryz.func360.trans (aT some LW)
 f319:=Tryz.func361.trans (aT some LW)
 f320:=Tryz.func362.trans (aT some LW)
 f321:=Tryz.func350.trans (aT some LW)
 f322:=Tryz.func351.trans (aT some LW)
 f337:=Tryz.func365.trans (aT some LW)
 f338:=Tryz.func366.trans (aT some LW)
 t0:=Tryz.underlying0
 a0:=Tryz.isAgg0
 z0:=Tryz.sizeOf0
 v0:=Tryz.zeroValue0
 t2:=Tryz.underlying2
 a2:=Tryz.isAgg2
 z2:=Tryz.sizeOf2
 v2:=Tryz.zeroValue2
 t3:=Tryz.underlying3
 a3:=Tryz.isAgg3
 z3:=Tryz.sizeOf3
 v3:=Tryz.zeroValue3
 t4:=Tryz.underlying4
 a4:=Tryz.isAgg4
 z4:=Tryz.sizeOf4
 v4:=Tryz.zeroValue4
 t5:=Tryz.underlying5
 a5:=Tryz.isAgg5
 z5:=Tryz.sizeOf5
 v5:=Tryz.zeroValue5
 t9:=Tryz.underlying9
 a9:=Tryz.isAgg9
 z9:=Tryz.sizeOf9
 v9:=Tryz.zeroValue9
 t20:=Tryz.underlying20
 a20:=Tryz.isAgg20
 z20:=Tryz.sizeOf20
 v20:=Tryz.zeroValue20
 t21:=Tryz.underlying21
 a21:=Tryz.isAgg21
 z21:=Tryz.sizeOf21
 v21:=Tryz.zeroValue21
 t37:=Tryz.underlying152
 a37:=Tryz.isAgg152
 z37:=Tryz.sizeOf152
 v37:=Tryz.zeroValue152
 t46:=Tryz.underlying142
 a46:=Tryz.isAgg142
 z46:=Tryz.sizeOf142
 v46:=Tryz.zeroValue142
 t51:=Tryz.underlying182
 a51:=Tryz.isAgg182
 z51:=Tryz.sizeOf182
 v51:=Tryz.zeroValue182
 t53:=Tryz.underlying184
 a53:=Tryz.isAgg184
 z53:=Tryz.sizeOf184
 v53:=Tryz.zeroValue184
 t75:=Tryz.underlying239
 a75:=Tryz.isAgg239
 z75:=Tryz.sizeOf239
 v75:=Tryz.zeroValue239
 t76:=Tryz.underlying240
 a76:=Tryz.isAgg240
 z76:=Tryz.sizeOf240
 v76:=Tryz.zeroValue240
 t85:=Tryz.underlying305
 a85:=Tryz.isAgg305
 z85:=Tryz.sizeOf305
 v85:=Tryz.zeroValue305
 t127:=Tryz.underlying316
 a127:=Tryz.isAgg316
 z127:=Tryz.sizeOf316
 v127:=Tryz.zeroValue316
 t143:=Tryz.underlying346
 a143:=Tryz.isAgg346
 z143:=Tryz.sizeOf346
 v143:=Tryz.zeroValue346
 t145:=Tryz.underlying348
 a145:=Tryz.isAgg348
 z145:=Tryz.sizeOf348
 v145:=Tryz.zeroValue348
 t167:=Tryz.underlying304
 a167:=Tryz.isAgg304
 z167:=Tryz.sizeOf304
 v167:=Tryz.zeroValue304
 t168:=Tryz.underlying307
 a168:=Tryz.isAgg307
 z168:=Tryz.sizeOf307
 v168:=Tryz.zeroValue307
 t171:=Tryz.underlying333
 a171:=Tryz.isAgg333
 z171:=Tryz.sizeOf333
 v171:=Tryz.zeroValue333
 t173:=Tryz.underlying335
 a173:=Tryz.isAgg335
 z173:=Tryz.sizeOf335
 v173:=Tryz.zeroValue335
 t175:=Tryz.underlying286
 a175:=Tryz.isAgg286
 z175:=Tryz.sizeOf286
 v175:=Tryz.zeroValue286
 t210:=Tryz.underlying331
 a210:=Tryz.isAgg331
 z210:=Tryz.sizeOf331
 v210:=Tryz.zeroValue331
 t212:=Tryz.underlying350
 a212:=Tryz.isAgg350
 z212:=Tryz.sizeOf350
 v212:=Tryz.zeroValue350
 t213:=Tryz.underlying351
 a213:=Tryz.isAgg351
 z213:=Tryz.sizeOf351
 t232:=Tryz.underlying355
 a232:=Tryz.isAgg355
 z232:=Tryz.sizeOf355
 v232:=Tryz.zeroValue355
 t233:=Tryz.underlying356
 a233:=Tryz.isAgg356
 z233:=Tryz.sizeOf356
 v233:=Tryz.zeroValue356
 g15:=by kernel_rfl
 g16:=by kernel_rfl
 g17:=by kernel_rfl
 g18:=by kernel_rfl
 g19:=by kernel_rfl
 t80:=Tryz.underlying295
 a80:=Tryz.isAgg295
 z80:=Tryz.sizeOf295
 v80:=Tryz.zeroValue295
 i0:=by kernel_rfl
 i2:=by kernel_rfl
 i3:=by kernel_rfl
 i4:=by kernel_rfl
 i5:=by kernel_rfl
 i9:=by kernel_rfl
 i20:=by kernel_rfl
 i21:=by kernel_rfl
 i37:=by kernel_rfl
 i46:=by kernel_rfl
 i51:=by kernel_rfl
 i53:=by kernel_rfl
 i75:=by kernel_rfl
 i76:=by kernel_rfl
 i80:=by kernel_rfl
 i85:=by kernel_rfl
 i127:=by kernel_rfl
 i143:=by kernel_rfl
 i145:=by kernel_rfl
 i167:=by kernel_rfl
 i168:=by kernel_rfl
 i171:=by kernel_rfl
 i173:=by kernel_rfl
 i175:=by kernel_rfl
 i210:=by kernel_rfl
 i212:=by kernel_rfl
 i232:=by kernel_rfl
 i233:=by kernel_rfl
 m15:=by kernel_rfl
 m16:=by kernel_rfl
 m17:=by kernel_rfl
 m18:=by kernel_rfl
 m19:=by kernel_rfl
 c0:=by kernel_rfl
 c2:=by kernel_rfl
 c3:=by kernel_rfl
 c4:=by kernel_rfl
 c5:=by kernel_rfl
 c9:=by kernel_rfl
 c20:=by kernel_rfl
 c21:=by kernel_rfl
 c37:=by kernel_rfl
 c46:=by kernel_rfl
 c51:=by kernel_rfl
 c53:=by kernel_rfl
 c75:=by kernel_rfl
 c76:=by kernel_rfl
 c80:=by kernel_rfl
 c85:=by kernel_rfl
 c127:=by kernel_rfl
 c143:=by kernel_rfl
 c145:=by kernel_rfl
 c167:=by kernel_rfl
 c168:=by kernel_rfl
 c171:=by kernel_rfl
 c173:=by kernel_rfl
 c175:=by kernel_rfl
 c210:=by kernel_rfl
 c212:=by kernel_rfl
 c213:=by kernel_rfl
 c232:=by kernel_rfl
 c233:=by kernel_rfl}
open Go.RowKit in
theorem Tryz.strconv_Atoi_ok(s:ByteArray)(wV:s.size<=9223372036854775806)(v:Int)(h:Lib.atoiAll s.data.toList=.ok v)(w:World):
  Calls Tryz.prog 234 #[.string s] w fun e w'=>e=.returned (.tuple #[.int .i64 v,.nilIface])/\(w'=w\/∃t,w'=Lib.bytesWorld w 5 t):=Any.strconv_Atoi_ok Tryz.NN s wV v h w
open Go.RowKit in
theorem Tryz.strconv_Atoi_range(s:ByteArray)(ajk:s.size<=281474976710656)(h:Lib.atoiAll s.data.toList=.range)(ev:Value)(w:World)(hv:w.cell? ⟨4,0,none⟩=some ev)(AX:ev=.nilIface\/∃te pe,ev=.iface te pe):
  Calls Tryz.prog 234 #[.string s] w fun e w'=>∃N,e=.returned (.tuple #[.int .i64 (Lib.atoiSat s.data.toList),.iface 307 (.pointer (some ⟨N,0,none⟩))])/\w.heap.size<=N/\w'.heap[N]?=some (.cells #[.string ⟨#[65,116,111,105]⟩,.string s,ev] 331 (0,0))/\Below w.heap.size w w':=Any.strconv_Atoi_range Tryz.NN s ajk h ev w hv AX
def Tryz.alv:Go.Shelf.Ren:=⟨fun|14=>283|16=>326|17=>278|19=>350|20=>351|21=>318|22=>319|23=>320|24=>321|25=>343|27=>235|26=>344|28=>279|29=>322|30=>345|31=>346|32=>347|33=>348|35=>158|34=>359|36=>360|37=>361|38=>362|39=>365|40=>366|n=>n,fun|9=>9|3=>3|22=>184|24=>239|25=>286|4=>4|34=>304|5=>5|36=>142|37=>152|0=>0|39=>307|21=>21|44=>331|47=>316|50=>348|48=>346|2=>2|52=>333|55=>335|59=>350|60=>182|20=>20|61=>351|65=>355|66=>356|67=>295|n=>n,fun|0=>3|1=>4|2=>5|3=>6|4=>7|n=>n⟩
def Tryz.alu:Go.Proofs.LaysPu.n14 Tryz.prog Tryz.alv:={
 mixed:=by kernel_rfl
 f14:=Tryz.func283.trans (aT some LW)
 f16:=Tryz.func326.trans (aT some LW)
 f17:=Tryz.func278.trans (aT some LW)
 f19:=Tryz.func350.trans (aT some LW)
 f20:=Tryz.func351.trans (aT some LW)
 f21:=Tryz.func318.trans (aT some LW)
 f22:=Tryz.func319.trans (aT some LW)
 f23:=Tryz.func320.trans (aT some LW)
 f24:=Tryz.func321.trans (aT some LW)
 f25:=Tryz.func343.trans (aT some LW)
 f26:=Tryz.func344.trans (aT some LW)
 f27:=Tryz.func235.trans (aT some LW)
 f28:=Tryz.func279.trans (aT some LW)
 f29:=Tryz.func322.trans (aT some LW)
 f30:=Tryz.func345.trans (aT some LW)
 f31:=Tryz.func346.trans (aT some LW)
 f32:=Tryz.func347.trans (aT some LW)
 f33:=Tryz.func348.trans (aT some LW)
 f34:=Tryz.func359.trans (aT some LW)
 f35:=Tryz.func158.trans (aT some LW)
 f36:=Tryz.func360.trans (aT some LW)
 f37:=Tryz.func361.trans (aT some LW)
 f38:=Tryz.func362.trans (aT some LW)
 f39:=Tryz.func365.trans (aT some LW)
 f40:=Tryz.func366.trans (aT some LW)
 t0:=Tryz.underlying0
 a0:=Tryz.isAgg0
 z0:=Tryz.sizeOf0
 v0:=Tryz.zeroValue0
 i0:=by kernel_rfl
 t2:=Tryz.underlying2
 a2:=Tryz.isAgg2
 z2:=Tryz.sizeOf2
 v2:=Tryz.zeroValue2
 i2:=by kernel_rfl
 t3:=Tryz.underlying3
 a3:=Tryz.isAgg3
 z3:=Tryz.sizeOf3
 v3:=Tryz.zeroValue3
 i3:=by kernel_rfl
 t4:=Tryz.underlying4
 a4:=Tryz.isAgg4
 z4:=Tryz.sizeOf4
 v4:=Tryz.zeroValue4
 i4:=by kernel_rfl
 t5:=Tryz.underlying5
 a5:=Tryz.isAgg5
 z5:=Tryz.sizeOf5
 v5:=Tryz.zeroValue5
 i5:=by kernel_rfl
 t9:=Tryz.underlying9
 a9:=Tryz.isAgg9
 z9:=Tryz.sizeOf9
 v9:=Tryz.zeroValue9
 i9:=by kernel_rfl
 t20:=Tryz.underlying20
 a20:=Tryz.isAgg20
 z20:=Tryz.sizeOf20
 v20:=Tryz.zeroValue20
 i20:=by kernel_rfl
 t21:=Tryz.underlying21
 a21:=Tryz.isAgg21
 z21:=Tryz.sizeOf21
 v21:=Tryz.zeroValue21
 i21:=by kernel_rfl
 t22:=Tryz.underlying184
 a22:=Tryz.isAgg184
 z22:=Tryz.sizeOf184
 v22:=Tryz.zeroValue184
 i22:=by kernel_rfl
 t24:=Tryz.underlying239
 a24:=Tryz.isAgg239
 z24:=Tryz.sizeOf239
 v24:=Tryz.zeroValue239
 i24:=by kernel_rfl
 t25:=Tryz.underlying286
 a25:=Tryz.isAgg286
 z25:=Tryz.sizeOf286
 v25:=Tryz.zeroValue286
 i25:=by kernel_rfl
 t34:=Tryz.underlying304
 a34:=Tryz.isAgg304
 z34:=Tryz.sizeOf304
 v34:=Tryz.zeroValue304
 i34:=by kernel_rfl
 c34:=by kernel_rfl
 t36:=Tryz.underlying142
 a36:=Tryz.isAgg142
 z36:=Tryz.sizeOf142
 v36:=Tryz.zeroValue142
 i36:=by kernel_rfl
 t37:=Tryz.underlying152
 a37:=Tryz.isAgg152
 z37:=Tryz.sizeOf152
 v37:=Tryz.zeroValue152
 i37:=by kernel_rfl
 t39:=Tryz.underlying307
 a39:=Tryz.isAgg307
 z39:=Tryz.sizeOf307
 v39:=Tryz.zeroValue307
 i39:=by kernel_rfl
 t44:=Tryz.underlying331
 a44:=Tryz.isAgg331
 z44:=Tryz.sizeOf331
 v44:=Tryz.zeroValue331
 i44:=by kernel_rfl
 t47:=Tryz.underlying316
 a47:=Tryz.isAgg316
 z47:=Tryz.sizeOf316
 v47:=Tryz.zeroValue316
 i47:=by kernel_rfl
 t48:=Tryz.underlying346
 a48:=Tryz.isAgg346
 z48:=Tryz.sizeOf346
 v48:=Tryz.zeroValue346
 i48:=by kernel_rfl
 t50:=Tryz.underlying348
 a50:=Tryz.isAgg348
 z50:=Tryz.sizeOf348
 v50:=Tryz.zeroValue348
 i50:=by kernel_rfl
 t52:=Tryz.underlying333
 a52:=Tryz.isAgg333
 z52:=Tryz.sizeOf333
 v52:=Tryz.zeroValue333
 i52:=by kernel_rfl
 t55:=Tryz.underlying335
 a55:=Tryz.isAgg335
 z55:=Tryz.sizeOf335
 v55:=Tryz.zeroValue335
 i55:=by kernel_rfl
 t59:=Tryz.underlying350
 a59:=Tryz.isAgg350
 z59:=Tryz.sizeOf350
 v59:=Tryz.zeroValue350
 i59:=by kernel_rfl
 t60:=Tryz.underlying182
 a60:=Tryz.isAgg182
 z60:=Tryz.sizeOf182
 v60:=Tryz.zeroValue182
 i60:=by kernel_rfl
 t61:=Tryz.underlying351
 a61:=Tryz.isAgg351
 z61:=Tryz.sizeOf351
 t65:=Tryz.underlying355
 a65:=Tryz.isAgg355
 z65:=Tryz.sizeOf355
 v65:=Tryz.zeroValue355
 i65:=by kernel_rfl
 t66:=Tryz.underlying356
 a66:=Tryz.isAgg356
 z66:=Tryz.sizeOf356
 v66:=Tryz.zeroValue356
 i66:=by kernel_rfl
 t67:=Tryz.underlying295
 a67:=Tryz.isAgg295
 z67:=Tryz.sizeOf295
 v67:=Tryz.zeroValue295
 i67:=by kernel_rfl
 g0:=by kernel_rfl
 m0:=by kernel_rfl
 g1:=by kernel_rfl
 m1:=by kernel_rfl
 g2:=by kernel_rfl
 m2:=by kernel_rfl
 g3:=by kernel_rfl
 m3:=by kernel_rfl
 g4:=by kernel_rfl
 m4:=by kernel_rfl}
open Go.RowKit in
theorem Tryz.strconv_ParseUint_10_at64_ok(s:ByteArray)(wV:s.size<=9223372036854775806)(u:Nat)(h:Lib.parseUintB 64 s.data.toList=.ok u)(w:World):
  Calls Tryz.prog 283 #[.string s,.int .i64 10,.int .i64 64] w fun e w'=>e=.returned (.tuple #[.int .u64 u,.nilIface])/\(w'=w\/w'=Lib.bytesWorld w 5 s):=Any.strconv_ParseUint_10_at64_ok Tryz.alu s wV u h w
def Tryz.alh:Go.Shelf.Ren:=⟨fun|219=>265|217=>300|225=>301|224=>302|267=>303|266=>336|314=>337|n=>n,fun|9=>9|3=>3|4=>4|5=>5|46=>142|146=>322|51=>182|n=>n,fun|1=>0|n=>n⟩
def Tryz.alg:Go.Proofs.Lays.n219 Tryz.prog Tryz.alh:={
 mixed:=by kernel_rfl
 f217:=Tryz.func300.trans (aT some LW)
 f219:=Tryz.func265.trans (aT some LW)
 f224:=Tryz.func302.trans (aT some LW)
 f225:=Tryz.func301.trans (aT some LW)
 f266:=Tryz.func336.trans (aT some LW)
 f267:=Tryz.func303.trans (aT some LW)
 f314:=Tryz.func337.trans (aT some LW)
 t3:=Tryz.underlying3
 a3:=Tryz.isAgg3
 z3:=Tryz.sizeOf3
 v3:=Tryz.zeroValue3
 t4:=Tryz.underlying4
 a4:=Tryz.isAgg4
 z4:=Tryz.sizeOf4
 v4:=Tryz.zeroValue4
 t5:=Tryz.underlying5
 a5:=Tryz.isAgg5
 z5:=Tryz.sizeOf5
 v5:=Tryz.zeroValue5
 t9:=Tryz.underlying9
 a9:=Tryz.isAgg9
 z9:=Tryz.sizeOf9
 v9:=Tryz.zeroValue9
 t46:=Tryz.underlying142
 a46:=Tryz.isAgg142
 z46:=Tryz.sizeOf142
 v46:=Tryz.zeroValue142
 t51:=Tryz.underlying182
 a51:=Tryz.isAgg182
 z51:=Tryz.sizeOf182
 v51:=Tryz.zeroValue182
 t146:=Tryz.underlying322
 a146:=Tryz.isAgg322
 z146:=Tryz.sizeOf322
 v146:=Tryz.zeroValue322
 g1:=by kernel_rfl}
open Go.RowKit Go.Lib in
theorem Tryz.stringslite_Index_one(s:ByteArray)(c:UInt8)(w:World):
  Calls Tryz.prog 265 #[.string s,.string ⟨#[c]⟩] w fun e w'=>e=.returned (.int .i64 (Lib.indexByte s.data.toList c))/\w'=w:=Any.stringslite_Index_one Tryz.alg s c w
def Tryz.WJ:Go.Shelf.Ren:=⟨fun|105=>288|212=>329|99=>330|165=>331|166=>286|170=>332|169=>289|263=>353|264=>354|206=>314|240=>327|241=>355|276=>352|277=>363|n=>n,fun|9=>9|3=>3|4=>4|20=>20|0=>0|46=>142|109=>312|5=>5|72=>291|76=>240|51=>182|146=>322|53=>184|148=>341|70=>289|37=>152|75=>239|127=>316|164=>338|80=>295|n=>n,fun|n=>n⟩
def Tryz.alb:Go.Proofs.Lays.n105 Tryz.prog Tryz.WJ:={
 mixed:=by kernel_rfl
 f99:=Tryz.func330.trans (aT some LW)
 f105:=Tryz.func288.trans (aT some LW)
 f165:=Tryz.func331.trans (aT some LW)
 f166:=Tryz.func286.trans (aT some LW)
 f169:=Tryz.func289.trans (aT some LW)
 f170:=Tryz.func332.trans (aT some LW)
 f206:=Tryz.func314.trans (aT some LW)
 f212:=Tryz.func329.trans (aT some LW)
 f240:=Tryz.func327.trans (aT some LW)
 f241:=Tryz.func355.trans (aT some LW)
 f263:=Tryz.func353.trans (aT some LW)
 f264:=Tryz.func354.trans (aT some LW)
 f276:=Tryz.func352.trans (aT some LW)
 f277:=Tryz.func363.trans (aT some LW)
 t0:=Tryz.underlying0
 a0:=Tryz.isAgg0
 z0:=Tryz.sizeOf0
 v0:=Tryz.zeroValue0
 t3:=Tryz.underlying3
 a3:=Tryz.isAgg3
 z3:=Tryz.sizeOf3
 v3:=Tryz.zeroValue3
 t4:=Tryz.underlying4
 a4:=Tryz.isAgg4
 z4:=Tryz.sizeOf4
 v4:=Tryz.zeroValue4
 t5:=Tryz.underlying5
 a5:=Tryz.isAgg5
 z5:=Tryz.sizeOf5
 v5:=Tryz.zeroValue5
 t9:=Tryz.underlying9
 a9:=Tryz.isAgg9
 z9:=Tryz.sizeOf9
 v9:=Tryz.zeroValue9
 t20:=Tryz.underlying20
 a20:=Tryz.isAgg20
 z20:=Tryz.sizeOf20
 v20:=Tryz.zeroValue20
 t37:=Tryz.underlying152
 a37:=Tryz.isAgg152
 z37:=Tryz.sizeOf152
 v37:=Tryz.zeroValue152
 t46:=Tryz.underlying142
 a46:=Tryz.isAgg142
 z46:=Tryz.sizeOf142
 v46:=Tryz.zeroValue142
 t51:=Tryz.underlying182
 a51:=Tryz.isAgg182
 z51:=Tryz.sizeOf182
 v51:=Tryz.zeroValue182
 t53:=Tryz.underlying184
 a53:=Tryz.isAgg184
 z53:=Tryz.sizeOf184
 v53:=Tryz.zeroValue184
 t70:=Tryz.underlying289
 a70:=Tryz.isAgg289
 z70:=Tryz.sizeOf289
 v70:=Tryz.zeroValue289
 t72:=Tryz.underlying291
 a72:=Tryz.isAgg291
 z72:=Tryz.sizeOf291
 v72:=Tryz.zeroValue291
 t75:=Tryz.underlying239
 a75:=Tryz.isAgg239
 z75:=Tryz.sizeOf239
 v75:=Tryz.zeroValue239
 t76:=Tryz.underlying240
 a76:=Tryz.isAgg240
 z76:=Tryz.sizeOf240
 v76:=Tryz.zeroValue240
 t109:=Tryz.underlying312
 a109:=Tryz.isAgg312
 z109:=Tryz.sizeOf312
 v109:=Tryz.zeroValue312
 t127:=Tryz.underlying316
 a127:=Tryz.isAgg316
 z127:=Tryz.sizeOf316
 v127:=Tryz.zeroValue316
 t146:=Tryz.underlying322
 a146:=Tryz.isAgg322
 z146:=Tryz.sizeOf322
 v146:=Tryz.zeroValue322
 t148:=Tryz.underlying341
 a148:=Tryz.isAgg341
 z148:=Tryz.sizeOf341
 v148:=Tryz.zeroValue341
 t164:=Tryz.underlying338
 a164:=Tryz.isAgg338
 z164:=Tryz.sizeOf338
 v164:=Tryz.zeroValue338}
def Tryz.abH:Builder.Extra Tryz.prog Tryz.WJ:={
 sizeBuilder:=by kernel_rfl
 liesBuilder:=by kernel_rfl
 t5:=Tryz.underlying5
 a5:=Tryz.isAgg5
 z5:=Tryz.sizeOf5
 v5:=Tryz.zeroValue5
 infoByte:=by kernel_rfl
 cellsByte:=by kernel_rfl
 sizeByte:=by kernel_rfl
 neB5:=by decide}
open Go.RowKit Go.Lib in
theorem Tryz.strings_Repeat(s:ByteArray)(c:Nat)(w:World)(hc:c<=9223372036854775807)(hlen:s.size*c<=140737488355328):
  Calls Tryz.prog 288 #[.string s,.int .i64 c] w fun e w'=>e=.returned (.string ⟨(Lib.repeatL s.data.toList c).toArray⟩)/\Below w.heap.size w w':=Any.strings_Repeat Tryz.alb Tryz.abH s c w hc hlen
def Tryz.alf:Go.Shelf.Ren:=⟨fun|194=>64|n=>n,fun|31=>48|9=>9|3=>3|4=>4|0=>0|n=>n,fun|n=>n⟩
def Tryz.WL:Go.Proofs.Lays.n194 Tryz.prog Tryz.alf:={
 mixed:=by kernel_rfl
 f194:=Tryz.func64.trans (aT some LW)
 t0:=Tryz.underlying0
 a0:=Tryz.isAgg0
 z0:=Tryz.sizeOf0
 v0:=Tryz.zeroValue0
 t3:=Tryz.underlying3
 a3:=Tryz.isAgg3
 z3:=Tryz.sizeOf3
 v3:=Tryz.zeroValue3
 t4:=Tryz.underlying4
 a4:=Tryz.isAgg4
 z4:=Tryz.sizeOf4
 v4:=Tryz.zeroValue4
 t9:=Tryz.underlying9
 a9:=Tryz.isAgg9
 z9:=Tryz.sizeOf9
 v9:=Tryz.zeroValue9
 t31:=Tryz.underlying48
 a31:=Tryz.isAgg48
 z31:=Tryz.sizeOf48
 v31:=Tryz.zeroValue48}
open Go.RowKit Go.Lib Go.Sort in
theorem Tryz.slices_Compact_string(cp off cap:Nat)(zs:List (List UInt8))(w:World)(hH:Holds encStr w cp off zs.toArray)(bb:zs.length<=9223372036854775807)(cR:zs.length<=cap):
  Calls Tryz.prog 64 #[.slice (some ⟨cp,off,none⟩) zs.length cap] w fun e w'=>e=.returned (.slice (some ⟨cp,off,none⟩) (Lib.compact zs).length cap)/\∃q,w'=putRow encStr (Sort.ahead w q) cp off (Lib.compact zs++List.replicate (zs.length-(Lib.compact zs).length) []).toArray:=Any.slices_Compact_string Tryz.WL cp off cap zs w hH bb cR
open Go.RowKit Go.Lib Go.Sort in
theorem Tryz.slices_Compact_string_empty(a:Option Addr)(cap:Nat)(w:World):
  Calls Tryz.prog 64 #[.slice a 0 cap] w fun e w'=>e=.returned (.slice a 0 cap)/\w'=w:=Any.slices_Compact_string_empty Tryz.WL a cap w
def Tryz.WN:Go.Shelf.Ren:=⟨fun|6=>63|8=>107|9=>106|19=>157|20=>158|21=>148|22=>149|23=>150|24=>151|25=>152|26=>153|27=>154|28=>155|29=>156|36=>202|31=>203|32=>204|37=>205|38=>206|39=>188|41=>261|n=>n,fun|27=>48|29=>9|3=>3|32=>142|26=>48|0=>0|44=>182|46=>184|4=>4|36=>175|35=>174|41=>69|5=>5|9=>9|53=>218|57=>222|63=>266|64=>267|n=>n,fun|n=>n⟩
def Tryz.WM:Go.Proofs.SlLaysM.n6 Tryz.prog Tryz.WN:={
 mixed:=by kernel_rfl
 f6:=⟨Tryz.f63.name,by decide,Tryz.func63.trans (aT some LW)⟩
 f8:=Tryz.func107.trans (aT some LW)
 f9:=⟨Tryz.f106.name,by decide,Tryz.func106.trans (aT some LW)⟩
 f19:=Tryz.func157.trans (aT some LW)
 f20:=Tryz.func158.trans (aT some LW)
 f21:=⟨Tryz.f148.name,by decide,Tryz.func148.trans (aT some LW)⟩
 f22:=⟨Tryz.f149.name,by decide,Tryz.func149.trans (aT some LW)⟩
 f23:=⟨Tryz.f150.name,by decide,Tryz.func150.trans (aT some LW)⟩
 f24:=⟨Tryz.f151.name,by decide,Tryz.func151.trans (aT some LW)⟩
 f25:=⟨Tryz.f152.name,by decide,Tryz.func152.trans (aT some LW)⟩
 f26:=⟨Tryz.f153.name,by decide,Tryz.func153.trans (aT some LW)⟩
 f27:=⟨Tryz.f154.name,by decide,Tryz.func154.trans (aT some LW)⟩
 f28:=⟨Tryz.f155.name,by decide,Tryz.func155.trans (aT some LW)⟩
 f29:=⟨Tryz.f156.name,by decide,Tryz.func156.trans (aT some LW)⟩
 f31:=Tryz.func203.trans (aT some LW)
 f32:=Tryz.func204.trans (aT some LW)
 f36:=⟨Tryz.f202.name,by decide,Tryz.func202.trans (aT some LW)⟩
 f37:=⟨Tryz.f205.name,by decide,Tryz.func205.trans (aT some LW)⟩
 f38:=⟨Tryz.f206.name,by decide,Tryz.func206.trans (aT some LW)⟩
 f39:=⟨Tryz.f188.name,by decide,Tryz.func188.trans (aT some LW)⟩
 f41:=⟨Tryz.f261.name,by decide,Tryz.func261.trans (aT some LW)⟩
 t0:=Tryz.underlying0
 a0:=Tryz.isAgg0
 z0:=Tryz.sizeOf0
 v0:=Tryz.zeroValue0
 t3:=Tryz.underlying3
 a3:=Tryz.isAgg3
 z3:=Tryz.sizeOf3
 v3:=Tryz.zeroValue3
 t4:=Tryz.underlying4
 a4:=Tryz.isAgg4
 z4:=Tryz.sizeOf4
 v4:=Tryz.zeroValue4
 t5:=Tryz.underlying5
 a5:=Tryz.isAgg5
 z5:=Tryz.sizeOf5
 v5:=Tryz.zeroValue5
 t9:=Tryz.underlying9
 a9:=Tryz.isAgg9
 z9:=Tryz.sizeOf9
 v9:=Tryz.zeroValue9
 t26:=Tryz.underlying48
 a26:=Tryz.isAgg48
 z26:=Tryz.sizeOf48
 v26:=Tryz.zeroValue48
 t27:=Tryz.underlying48
 a27:=Tryz.isAgg48
 z27:=Tryz.sizeOf48
 v27:=Tryz.zeroValue48
 t29:=Tryz.underlying9
 a29:=Tryz.isAgg9
 z29:=Tryz.sizeOf9
 v29:=Tryz.zeroValue9
 t32:=Tryz.underlying142
 a32:=Tryz.isAgg142
 z32:=Tryz.sizeOf142
 v32:=Tryz.zeroValue142
 t35:=Tryz.underlying174
 a35:=Tryz.isAgg174
 z35:=Tryz.sizeOf174
 v35:=Tryz.zeroValue174
 t36:=Tryz.underlying175
 a36:=Tryz.isAgg175
 z36:=Tryz.sizeOf175
 v36:=Tryz.zeroValue175
 t41:=Tryz.underlying69
 a41:=Tryz.isAgg69
 z41:=Tryz.sizeOf69
 v41:=Tryz.zeroValue69
 t44:=Tryz.underlying182
 a44:=Tryz.isAgg182
 z44:=Tryz.sizeOf182
 v44:=Tryz.zeroValue182
 t46:=Tryz.underlying184
 a46:=Tryz.isAgg184
 z46:=Tryz.sizeOf184
 v46:=Tryz.zeroValue184
 t53:=Tryz.underlying218
 a53:=Tryz.isAgg218
 z53:=Tryz.sizeOf218
 v53:=Tryz.zeroValue218
 t57:=Tryz.underlying222
 a57:=Tryz.isAgg222
 z57:=Tryz.sizeOf222
 v57:=Tryz.zeroValue222
 t63:=Tryz.underlying266
 a63:=Tryz.isAgg266
 z63:=Tryz.sizeOf266
 v63:=Tryz.zeroValue266
 t64:=Tryz.underlying267
 a64:=Tryz.isAgg267
 z64:=Tryz.sizeOf267
 v64:=Tryz.zeroValue267}
open Go.RowKit Go.Sort in
theorem Tryz.slices_Sort_string_none(p:Option Addr)(cap:Nat)(w:World):
  Calls Tryz.prog 63 #[.slice p 0 cap] w fun e w'=>e=.returned (.tuple #[])/\w'=w:=AnyM.slices_Sort_string_none Tryz.WM p cap w
def Tryz.alz:Go.Shelf.Ren:=⟨fun|6=>130|15=>107|14=>187|28=>157|29=>158|20=>241|21=>242|22=>243|23=>244|24=>245|25=>246|26=>247|27=>248|46=>290|47=>203|48=>204|49=>291|50=>292|57=>333|n=>n,fun|22=>43|24=>48|25=>165|3=>3|39=>142|0=>0|53=>182|55=>184|4=>4|46=>175|45=>174|50=>69|5=>5|9=>9|66=>218|70=>222|76=>266|77=>267|n=>n,fun|n=>n⟩
def Tryz.aly:Go.Proofs.SlLaysF.n6 Tryz.prog Tryz.alz:={
 mixed:=by kernel_rfl
 f6:=⟨Tryz.f130.name,by decide,Tryz.func130.trans (aT some LW)⟩
 f14:=⟨Tryz.f187.name,by decide,Tryz.func187.trans (aT some LW)⟩
 f15:=Tryz.func107.trans (aT some LW)
 f20:=⟨Tryz.f241.name,by decide,Tryz.func241.trans (aT some LW)⟩
 f21:=⟨Tryz.f242.name,by decide,Tryz.func242.trans (aT some LW)⟩
 f22:=⟨Tryz.f243.name,by decide,Tryz.func243.trans (aT some LW)⟩
 f23:=⟨Tryz.f244.name,by decide,Tryz.func244.trans (aT some LW)⟩
 f24:=⟨Tryz.f245.name,by decide,Tryz.func245.trans (aT some LW)⟩
 f25:=⟨Tryz.f246.name,by decide,Tryz.func246.trans (aT some LW)⟩
 f26:=⟨Tryz.f247.name,by decide,Tryz.func247.trans (aT some LW)⟩
 f27:=⟨Tryz.f248.name,by decide,Tryz.func248.trans (aT some LW)⟩
 f28:=Tryz.func157.trans (aT some LW)
 f29:=Tryz.func158.trans (aT some LW)
 f46:=⟨Tryz.f290.name,by decide,Tryz.func290.trans (aT some LW)⟩
 f47:=Tryz.func203.trans (aT some LW)
 f48:=Tryz.func204.trans (aT some LW)
 f49:=⟨Tryz.f291.name,by decide,Tryz.func291.trans (aT some LW)⟩
 f50:=⟨Tryz.f292.name,by decide,Tryz.func292.trans (aT some LW)⟩
 f57:=⟨Tryz.f333.name,by decide,Tryz.func333.trans (aT some LW)⟩
 t0:=Tryz.underlying0
 a0:=Tryz.isAgg0
 z0:=Tryz.sizeOf0
 v0:=Tryz.zeroValue0
 t3:=Tryz.underlying3
 a3:=Tryz.isAgg3
 z3:=Tryz.sizeOf3
 v3:=Tryz.zeroValue3
 t4:=Tryz.underlying4
 a4:=Tryz.isAgg4
 z4:=Tryz.sizeOf4
 v4:=Tryz.zeroValue4
 t5:=Tryz.underlying5
 a5:=Tryz.isAgg5
 z5:=Tryz.sizeOf5
 v5:=Tryz.zeroValue5
 t9:=Tryz.underlying9
 a9:=Tryz.isAgg9
 z9:=Tryz.sizeOf9
 v9:=Tryz.zeroValue9
 t22:=Tryz.underlying43
 a22:=Tryz.isAgg43
 z22:=Tryz.sizeOf43
 v22:=Tryz.zeroValue43
 a24:=Tryz.isAgg48
 z24:=Tryz.sizeOf48
 t25:=Tryz.underlying165
 a25:=Tryz.isAgg165
 z25:=Tryz.sizeOf165
 v25:=Tryz.zeroValue165
 t39:=Tryz.underlying142
 a39:=Tryz.isAgg142
 z39:=Tryz.sizeOf142
 v39:=Tryz.zeroValue142
 t45:=Tryz.underlying174
 a45:=Tryz.isAgg174
 z45:=Tryz.sizeOf174
 v45:=Tryz.zeroValue174
 t46:=Tryz.underlying175
 a46:=Tryz.isAgg175
 z46:=Tryz.sizeOf175
 v46:=Tryz.zeroValue175
 t50:=Tryz.underlying69
 a50:=Tryz.isAgg69
 z50:=Tryz.sizeOf69
 v50:=Tryz.zeroValue69
 t53:=Tryz.underlying182
 a53:=Tryz.isAgg182
 z53:=Tryz.sizeOf182
 v53:=Tryz.zeroValue182
 t55:=Tryz.underlying184
 a55:=Tryz.isAgg184
 z55:=Tryz.sizeOf184
 v55:=Tryz.zeroValue184
 t66:=Tryz.underlying218
 a66:=Tryz.isAgg218
 z66:=Tryz.sizeOf218
 v66:=Tryz.zeroValue218
 t70:=Tryz.underlying222
 a70:=Tryz.isAgg222
 z70:=Tryz.sizeOf222
 v70:=Tryz.zeroValue222
 t76:=Tryz.underlying266
 a76:=Tryz.isAgg266
 z76:=Tryz.sizeOf266
 v76:=Tryz.zeroValue266
 t77:=Tryz.underlying267
 a77:=Tryz.isAgg267
 z77:=Tryz.sizeOf267
 v77:=Tryz.zeroValue267}
def Tryz.alx:Go.Shelf.Ren:=⟨fun|6=>130|15=>107|14=>187|28=>157|29=>158|20=>241|21=>242|22=>243|23=>244|24=>245|25=>246|26=>247|27=>248|46=>290|47=>203|48=>204|49=>291|50=>292|57=>333|n=>n,fun|22=>43|24=>48|25=>165|3=>3|39=>142|0=>0|53=>182|55=>184|4=>4|46=>175|45=>174|50=>69|5=>5|9=>9|66=>218|70=>222|76=>266|77=>267|n=>n,fun|n=>n⟩
def Tryz.alw:Go.Proofs.SlLaysF0.n6 Tryz.prog Tryz.alx:={
 mixed:=by kernel_rfl
 f6:=⟨Tryz.f130.name,by decide,Tryz.func130.trans (aT some LW)⟩
 f14:=⟨Tryz.f187.name,by decide,Tryz.func187.trans (aT some LW)⟩
 f15:=Tryz.func107.trans (aT some LW)
 f20:=⟨Tryz.f241.name,by decide,Tryz.func241.trans (aT some LW)⟩
 f21:=⟨Tryz.f242.name,by decide,Tryz.func242.trans (aT some LW)⟩
 f22:=⟨Tryz.f243.name,by decide,Tryz.func243.trans (aT some LW)⟩
 f23:=⟨Tryz.f244.name,by decide,Tryz.func244.trans (aT some LW)⟩
 f24:=⟨Tryz.f245.name,by decide,Tryz.func245.trans (aT some LW)⟩
 f25:=⟨Tryz.f246.name,by decide,Tryz.func246.trans (aT some LW)⟩
 f26:=⟨Tryz.f247.name,by decide,Tryz.func247.trans (aT some LW)⟩
 f27:=⟨Tryz.f248.name,by decide,Tryz.func248.trans (aT some LW)⟩
 f28:=Tryz.func157.trans (aT some LW)
 f29:=Tryz.func158.trans (aT some LW)
 f46:=⟨Tryz.f290.name,by decide,Tryz.func290.trans (aT some LW)⟩
 f47:=Tryz.func203.trans (aT some LW)
 f48:=Tryz.func204.trans (aT some LW)
 f49:=⟨Tryz.f291.name,by decide,Tryz.func291.trans (aT some LW)⟩
 f50:=⟨Tryz.f292.name,by decide,Tryz.func292.trans (aT some LW)⟩
 f57:=⟨Tryz.f333.name,by decide,Tryz.func333.trans (aT some LW)⟩
 t0:=Tryz.underlying0
 a0:=Tryz.isAgg0
 z0:=Tryz.sizeOf0
 v0:=Tryz.zeroValue0
 t3:=Tryz.underlying3
 a3:=Tryz.isAgg3
 z3:=Tryz.sizeOf3
 v3:=Tryz.zeroValue3
 t4:=Tryz.underlying4
 a4:=Tryz.isAgg4
 z4:=Tryz.sizeOf4
 v4:=Tryz.zeroValue4
 t5:=Tryz.underlying5
 a5:=Tryz.isAgg5
 z5:=Tryz.sizeOf5
 v5:=Tryz.zeroValue5
 t9:=Tryz.underlying9
 a9:=Tryz.isAgg9
 z9:=Tryz.sizeOf9
 v9:=Tryz.zeroValue9
 t22:=Tryz.underlying43
 a22:=Tryz.isAgg43
 z22:=Tryz.sizeOf43
 v22:=Tryz.zeroValue43
 t25:=Tryz.underlying165
 a25:=Tryz.isAgg165
 z25:=Tryz.sizeOf165
 v25:=Tryz.zeroValue165
 t39:=Tryz.underlying142
 a39:=Tryz.isAgg142
 z39:=Tryz.sizeOf142
 v39:=Tryz.zeroValue142
 t45:=Tryz.underlying174
 a45:=Tryz.isAgg174
 z45:=Tryz.sizeOf174
 v45:=Tryz.zeroValue174
 t46:=Tryz.underlying175
 a46:=Tryz.isAgg175
 z46:=Tryz.sizeOf175
 v46:=Tryz.zeroValue175
 t50:=Tryz.underlying69
 a50:=Tryz.isAgg69
 z50:=Tryz.sizeOf69
 v50:=Tryz.zeroValue69
 t53:=Tryz.underlying182
 a53:=Tryz.isAgg182
 z53:=Tryz.sizeOf182
 v53:=Tryz.zeroValue182
 t55:=Tryz.underlying184
 a55:=Tryz.isAgg184
 z55:=Tryz.sizeOf184
 v55:=Tryz.zeroValue184
 t66:=Tryz.underlying218
 a66:=Tryz.isAgg218
 z66:=Tryz.sizeOf218
 v66:=Tryz.zeroValue218
 t70:=Tryz.underlying222
 a70:=Tryz.isAgg222
 z70:=Tryz.sizeOf222
 v70:=Tryz.zeroValue222
 t76:=Tryz.underlying266
 a76:=Tryz.isAgg266
 z76:=Tryz.sizeOf266
 v76:=Tryz.zeroValue266
 t77:=Tryz.underlying267
 a77:=Tryz.isAgg267
 z77:=Tryz.sizeOf267
 v77:=Tryz.zeroValue267}
open Go.RowKit Go.Lib Go.Sort in
theorem Tryz.slices_SortFunc_none{α:Type}[Inhabited α](p:Option Addr)(cap:Nat)(fv:Value)(w:World):
  Calls Tryz.prog 130 #[.slice p 0 cap,fv] w fun e w'=>e=.returned (.tuple #[])/\w'=w:=AnyF.slices_SortFunc_none Tryz.alw p cap fv w
open Go.RowKit Go.Lib Go.Sort in
theorem Tryz.slices_SortFunc_total{α:Type}[Inhabited α](enc:α->Value)(h1:OneCell enc)(cf:α->α->Int)(hO:SWO (ltOf cf))(g:Nat)(cb:Array Value)(cp off cap:Nat)(d:Array α)(w:World)(eg:∀args w,(callFunc g args).run Tryz.prog w=.ok (.enter g args) w)(MD:CmpLays1 Tryz.prog g cb enc cf cp off d.size w)(hH:Holds enc w cp off d)(mN:cp<w.heap.size)(bb:d.size<4611686018427387904)(hT:∀x y,(ltOf cf) x y=false->(ltOf cf) y x=false->x=y):
  Calls Tryz.prog 130 #[.slice (some ⟨cp,off,none⟩) d.size cap,.func (.func g) #[] cb] w fun e w'=>
   e=.returned (.tuple #[])/\∃n os,w'=sortWorld enc w cp off n (d.toList.mergeSort fun x y=>!(ltOf cf) y x).toArray os:=Any.slices_SortFunc_total Tryz.aly enc h1 cf hO g cb cp off cap d w eg MD hH mN bb hT
end Go.Proofs
namespace Go.T
open Go Go.Proofs
def gm.below{w w':World}(h:Go.RowKit.Below w.heap.size w w'):gm w w':=⟨h.size,fun b hb=>h.block b hb,h.os,h.output,.inr trivial⟩
def aeK(s:aa):Fc Tryz.prog 324 [.str s,.str [45]] (.a_ [.str (d_ s).1,.b (d_ s).2]):=.rf fun w O ρ vals _ hv=>by
 obtain⟨rfl,hb,_⟩:=hv.Fj;refine(Tryz.strings_CutPrefix ⟨s.toArray⟩ ⟨[45].toArray⟩ w).mono ?_;rintro e w' ⟨rfl,rfl⟩;have hs:=JC s;refine⟨_,rfl,?_,gm.refl _⟩;have h1:Lib.hasPrefix s [45]=(d_ s).2:=by
  cases s with
  |nil=>rfl
  |cons c r=>
   by_cases h:c=45
   ·subst h;simp[Lib.hasPrefix,d_,List.isPrefixOf]
   ·have:d_ (c::r)=(c::r,false):=by unfold d_;split<;>simp_all
    simp[Lib.hasPrefix,this,List.isPrefixOf];exact fun e=>h e.symm
 have h2:Lib.trimPrefix s [45]=(d_ s).1:=by
  unfold Lib.trimPrefix;rw[h1];cases s with
  |nil=>rfl
  |cons c r=>
   by_cases h:c=45
   ·subst h;simp[d_]
   ·have:d_ (c::r)=(c::r,false):=by unfold d_;split<;>simp_all
    simp[this]
 simp only[V];refine⟨_,rfl,?_⟩;simp only[Vs];exact⟨_,_,rfl,by simp only[V];exact⟨by rw[<-h2],by omega⟩,_,_,rfl,by simp only[V];rw[<-h1],rfl⟩
def af4(s:aa):s.dropWhile (· ==48)=ff s:=by
 induction s with
 |nil=>rfl
 |cons c r ih=>
  by_cases h:c=48
  ·subst h;simpa[ff]using ih
  ·have:ff (c::r)=c::r:=by unfold ff;split<;>simp_all
   rw[this];simp[h]
def as_(s:aa):Fc Tryz.prog 325 [.str s,.str [48]] (.str (ff s)):=.rf fun w O ρ vals _ hv=>by
 obtain⟨rfl,hb,_⟩:=hv.Fj;refine(Tryz.strings_TrimLeft_one ⟨s.toArray⟩ 48 zD w).mono ?_;rintro e w' ⟨rfl,rfl⟩;refine⟨_,rfl,?_,gm.refl _⟩;have:=Gs s;simp only[V];exact⟨by simp[Lib.trimLeftB,af4],by omega⟩
theorem Y8:∀(s:aa)(acc:Nat),s.all cg=true->acc*10^s.length+natVal s<1000000000000000000->Lib.parseUintM (2^64-1) acc s=.ok (acc*10^s.length+natVal s)
 |[],acc,_,_=>by simp[Lib.parseUintM,natVal]
 |c::s,acc,h,hb=>by
  simp only[kJ,bd]at h;have hd:=h.1;simp only[cg,bd,cd]at hd;have key:∀(s:aa)(a:Nat),s.foldl (fun a c=>10*a+(c.toNat-48)) a=a*10^s.length+natVal s:=by
   intro s;induction s with
   |nil=>intro a;simp[natVal]
   |cons c r ih=>
    intro a;rw[oe,ih];have:natVal (c::r)=(c.toNat-48)*10^r.length+natVal r:=by
     show(c::r).foldl _ 0=_;rw[oe,ih];simp
    rw[this,bD,lN,dO];have:10*a*10^r.length=a*(10^r.length*10):=by rw[fO 10 a,iv,fO 10]
    omega
  have hv:natVal (c::s)=(c.toNat-48)*10^s.length+natVal s:=by
   show(c::s).foldl _ 0=_;rw[oe,key];simp
  have he:acc*10^(c::s).length+natVal (c::s)=(acc*10+(c.toNat-48))*10^s.length+natVal s:=by
   rw[hv,bD,lN,dO,<-iv,xY];omega
  rw[he]at hb|-;have hp:1<=10^s.length:=Nat.one_le_pow _ _ zO;have fH:acc*10+(c.toNat-48)<1000000000000000000:=by
   have:(acc*10+(c.toNat-48))*1<=(acc*10+(c.toNat-48))*10^s.length:=jg _ hp;omega
  rw[Lib.parseUintM,aV hd,aF zO,aF zO];exact Y8 s _ h.2 hb
def aoH(s:aa)(h0:s≠[])(hd:s.all cg=true)(hl:s.length<=17):Fc Tryz.prog 283 [.str s,.raw (.int .i64 10),.raw (.int .i64 64)] (.a_ [.raw (.int .u64 (natVal s)),.raw .nilIface]):=.rf fun w O ρ vals _ hv=>by
 simp only[Vs,V]at hv;obtain⟨u,us,rfl,⟨rfl,hb⟩,u',zU,rfl,rfl,u'',azs,rfl,rfl,rfl⟩:=hv;have Nk:=OE hd hl;refine(Tryz.strconv_ParseUint_10_at64_ok ⟨s.toArray⟩ (by simp[ByteArray.size];omega) (natVal s) ?_ w).mono ?_
 ·have:=Y8 s 0 hd zO;simp only[Lib.parseUintB,aF h0];simpa using this
 ·rintro e w' ⟨rfl,hw⟩;refine⟨_,rfl,?_,?_⟩
  ·simp only[V];exact⟨_,rfl,by simp only[Vs];exact⟨_,_,rfl,by simp[V],_,_,rfl,by simp[V],rfl⟩⟩
  ·rcases hw with rfl|rfl
   ·exact gm.refl _
   ·exact gm.below (Lib.below_freeze ((RowKit.Below.drew (RowKit.Below.refl _ w)).alloc (dP _) _) (p:=⟨w.heap.size,_,none⟩) (dP _) _)
theorem repeatL_one(c:UInt8):∀n,Lib.repeatL [c] n=List.replicate n c
 |0=>rfl
 |n+1=>by simp[Lib.repeatL,repeatL_one c n,DW]
def Z2(n:Int)(h0:0<=n)(h1:n<=1000):Fc Tryz.prog 288 [.str [48],.i n] (.str (List.replicate n.toNat 48)):=.rf fun w O ρ vals _ hv=>by
 simp only[Vs,V]at hv;obtain⟨u,us,rfl,⟨rfl,hb⟩,u',zU,rfl,rfl,rfl⟩:=hv;obtain⟨k,rfl⟩:∃k:Nat,n=k:=⟨n.toNat,by omega⟩;refine(Tryz.strings_Repeat ⟨[48].toArray⟩ k w zO (by simp[ByteArray.size];omega)).mono ?_;rintro e w' ⟨rfl,hw⟩;refine⟨_,rfl,?_,gm.below hw⟩;simp only[V];exact⟨by simp[repeatL_one],by simp[aD];omega⟩
def ajV(s:aa)(c:UInt8):Fc Tryz.prog 265 [.str s,.str [c]] (.i (Lib.indexByte s c)):=.rf fun w O ρ vals _ hv=>by
 obtain⟨rfl,hb,_⟩:=hv.Fj;refine(Tryz.stringslite_Index_one ⟨s.toArray⟩ c w).mono ?_;rintro e w' ⟨rfl,rfl⟩;exact⟨_,rfl,by simp[V],gm.refl _⟩
open Go.Shelf Go.RowKit Go.Sort Go.Lib
def ajv(w:World)(T:TypeId)(nd:Nat)(hs:nd<=24):Holds (fun(b:UInt8)=>Value.int .u8 (b.toNat:Int)) (w.alloc (.cells Lib.zeros24 T)) w.heap.size 0 (Array.replicate nd (0:UInt8)):=fun j hj=>by
 have MY:j<nd:=by simpa using hj
 refine⟨?_,World.frozen?_alloc_new _ _ _ _⟩;rw[World.cell?_alloc_new,Lib.zeros24_at _ zO,ya _ j hj];simp
def ahk(w:World)(o:Obj)(dk:Array UInt8)(k:Nat):∃os,(putRow (fun(b:UInt8)=>Value.int .u8 (b.toNat:Int)) (w.alloc o) w.heap.size 0 dk).drewN k=grow (w.drewN k) os:=by
 rw[alloc_eq_grow];obtain⟨os',_,e⟩:=putRow_grow_new (fun(b:UInt8)=>Value.int .u8 (b.toNat:Int)) w #[o] w.heap.size 0 dk (dP _);exact⟨os',by rw[e];rfl⟩
def QK:Tryz.prog.follows .mixedOrders=true:=by kernel_rfl
set_option maxHeartbeats 6400000 in
set_option maxRecDepth 100000 in
def ahC(u:Nat)(DQ:u<18446744073709551616)(w:World)(DM:Lib.TabIs Tryz.prog w "internal/strconv.uint64pow10" .u64 Lib.pow10Tab):
  Calls Tryz.prog 328 #[.int .u64 u,.int .i64 10] w fun e w'=>e=.returned (.string ⟨(Lib.decDigits u).toArray⟩)/\∃k os,w'=grow (w.drewN k) os:=by
 have mixed:=QK;by_cases hs:u<100
 ·have iu:(u:Int)<100:=by omega
  go_enter Tryz.func328,Tryz.ntmps328
  have hw:IntKind.i64.wrap (u:Int)=u:=IntWalk.i64_in _ ⟨by omega,by omega⟩
  go_wp2_with (go_at_call 345;refine(Tryz.internal_strconv_small u hs _).mono ?_;rintro e w' ⟨rfl,rfl⟩)
  go_ret
  exact⟨rfl,0,#[],by simp[World.drewN_zero]⟩
 ·have VJ:1<=u:=by omega
  have axi:Lib.nDigits u<=20:=by have:=Lib.numDigits_eq u VJ DQ;split at this<;>omega
  have pU:Tryz.prog.arrayLen 333=24:=by simp[Program.arrayLen,Tryz.underlying333]
  have axn:∀W,(Instr.sliceAt 333 (.pointer (some ⟨w.heap.size,0,none⟩)) none (some (.int .i64 (Lib.nDigits u:Int))) none).run Tryz.prog W=.ok (.slice (some ⟨w.heap.size,0,none⟩) (Lib.nDigits u) 24) W:=fun W=>by
   rw[run_sliceAt_array_h W 333 ⟨w.heap.size,0,none⟩ (by simp[Program.arrayLen,Program.elem,Tryz.underlying333]) .i64 (Lib.nDigits u:Int) zO (by rw[pU];omega)]
   go_simp
   try omega
  have s6:=ajv w 333 (Lib.nDigits u) zO;have U4:=Tryz.internal_strconv_formatBase10 w.heap.size 0 24 u (Array.replicate (Lib.nDigits u) 0) (w.alloc (.cells Lib.zeros24 333)) s6 (by rw[Ca];exact Lib.lt_pow_nDigits u) DQ (by rw[Ca];omega);rw[Ca]at U4;have HH0:=Lib.hid s6;have iu:(100:Int)<=(u:Int):=by omega
  clear s6 pU
  go_enter Tryz.func328,Tryz.ntmps328
  go_wp2_with (first
   |(go_at_call 346;refine(Tryz.internal_strconv_numDigits u VJ DQ _ (Lib.tabIs_alloc DM _)).mono ?_;rintro e w' ⟨rfl,rfl⟩))
  go_at_call 347
  refine U4.mono ?_;rintro e w' ⟨rfl,k,v',dk,rfl,hF⟩;have US:(convert 152 9 (.slice (some ⟨w.heap.size,0,none⟩) (Lib.nDigits u) 24)).run Tryz.prog ((putRow (fun(b:UInt8)=>Value.int .u8 (b.toNat:Int)) (w.alloc (.cells Lib.zeros24 333)) w.heap.size 0 dk).drewN k)=.ok (.string ⟨(Lib.decDigits u).toArray⟩) ((putRow (fun(b:UInt8)=>Value.int .u8 (b.toNat:Int)) (w.alloc (.cells Lib.zeros24 333)) w.heap.size 0 dk).drewN k):=by
   have h:=run_convert_bytes_back (P:=Tryz.prog) ((putRow (fun(b:UInt8)=>Value.int .u8 (b.toNat:Int)) (w.alloc (.cells Lib.zeros24 333)) w.heap.size 0 dk).drewN k) 152 9 5 ⟨w.heap.size,0,none⟩ 24 (Lib.decDigits u) Tryz.underlying152 Tryz.underlying5 Tryz.underlying9 (fun j hj=>by
    rw[Lib.row_is_numeral hF j hj,Lib.add_plain,World.cell?_drewN];exact cell?_putRow (fun(b:UInt8)=>Value.int .u8 (b.toNat:Int)) _ w.heap.size 0 _ dk HH0.out (by rw[hF.size,Ca]) j (by rw[hF.size];rw[Lib.decDigits_length]at hj;exact hj))
   rw[Lib.decDigits_length]at h;exact h
  go_wp2
  go_ret
  obtain⟨os,eo⟩:=ahk w (.cells Lib.zeros24 333) dk k;exact⟨rfl,k,os,eo⟩
def Wo(w:World)(k:Nat)(os:Array Obj):gm w (grow (w.drewN k) os):=by
 have h:(w.drewN k).heap=w.heap/\(w.drewN k).os=w.os/\(w.drewN k).output=w.output:=by
  unfold World.drewN;exact⟨rfl,rfl,rfl⟩
 refine⟨?_,fun b hb=>?_,h.2.1,h.2.2,.inr trivial⟩
 ·show w.heap.size<=((w.drewN k).heap++os).size;rw[h.1,FL];omega
 ·show((w.drewN k).heap++os)[b]?=_;rw[h.1,oY hb]
def aaE{w:World}{O:Nat->Prop}(h:Gl w O):Lib.TabIs Tryz.prog w "internal/strconv.uint64pow10" .u64 Lib.pow10Tab:=by
 obtain⟨⟨T,fr,h1⟩,_⟩:=h.1 5 _ (kl.2 rfl);have hg:Tryz.prog.globalNamed "internal/strconv.uint64pow10"=some 5:=by kernel_rfl
 unfold Lib.TabIs World.var?;rw[hg];have cB:I6.map (fun(n:Nat)=>(n:Int))=Lib.pow10Tab:=by decide+kernel
 have:(I6.map fun(n:Nat)=>Value.int .u64 (n:Int)).toArray=(Lib.pow10Tab.map fun z=>Value.int .u64 z).toArray:=by rw[<-cB,Ha];rfl
 simp[h1,this]
def Aq(u:Nat)(h:u≠0):Lib.decDigits u=gK u:=by
 induction u using Nat.strongRecOn with
 |_ u ih=>
  rw[Lib.decDigits,tQ h];split
  ·rename_i hu;rw[sW hu,kK,oZ hu];rfl
  ·rw[ih (u/10) zO zO]
def ahB(u:Nat)(hu:u<18446744073709551616):Fc Tryz.prog 328 [.raw (.int .u64 u),.i 10] (.str (Lib.decDigits u)):=.rf fun w O ρ vals hg hv=>by
 simp only[Vs,V]at hv;obtain⟨_,_,rfl,rfl,_,_,rfl,rfl,rfl⟩:=hv;refine(ahC u hu w (aaE hg)).mono ?_;rintro e w' ⟨rfl,k,os,rfl⟩;refine⟨_,rfl,?_,Wo w k os⟩;simp only[V];have:(Lib.decDigits u).length<=20:=by
  rw[Lib.decDigits_length];by_cases h:u=0
  ·subst h;rw[Lib.nDigits_small zO];omega
  ·have:=Lib.numDigits_eq u zO hu;split at this<;>omega
 exact⟨trivial,by unfold aD;omega⟩
end Go.T
namespace Go.T
open Go Go.Proofs Go.Shelf Go.RowKit
def Re:(Tryz.prog.info? 291).map (·.size)=some 2:=by kernel_rfl
def acS:liesAt Tryz.prog Tryz.prog.depth 291 (2/Tryz.prog.cellsOf 291) 0 291 1=true:=by kernel_rfl
set_option maxHeartbeats 1000000 in
set_option maxRecDepth 100000 in
def aew(b:Nat)(w:World)(h0:w.cell? ⟨b,0,none⟩=some (.pointer (some ⟨b,0,none⟩))):
  Calls Tryz.prog 327 #[.pointer (some ⟨b,0,none⟩)] w fun e w'=>e=.returned (.tuple #[])/\w'=w:=by
 obtain⟨j,hj,_⟩:=gx.1 Re
 go_enter Tryz.func327,Tryz.ntmps327
 go_wp2
 rw[Lib.run_neq_ptr_same w _ Tryz.underlying289 hj]
 go_wp2
 go_end0
 exact⟨rfl,rfl⟩
set_option maxHeartbeats 1000000 in
set_option maxRecDepth 100000 in
def aev(b:Nat)(w:World)(h0:w.cell? ⟨b,0,none⟩=some (.pointer none))(mQ:w.shape? b=some (291,2))(s9:w.frozen? ⟨b,0,none⟩=false):
  Calls Tryz.prog 327 #[.pointer (some ⟨b,0,none⟩)] w fun e w'=>e=.returned (.tuple #[])/\w'=w.setCell ⟨b,0,none⟩ (.pointer (some ⟨b,0,none⟩)):=by
 obtain⟨j,hj,M1⟩:=gx.1 Re
 go_enter Tryz.func327,Tryz.ntmps327
 go_wp2
 rw[Lib.run_to_unsafe w ⟨b,0,none⟩ Tryz.underlying289 Tryz.underlying338 hj (by rw[M1];decide) mQ (Nat.zero_lt_succ 1)];simp only[Result.andThen];rw[Oper.upon_value]
 go_wp2
 rw[run_callFunc_extern Tryz.func352 LW LW LW (e:=Extern.AbiNoEscape.same) LW];rw[Lib.run_noEscape];simp only[Result.andThen];rw[Oper.upon_value]
 go_wp2
 rw[Lib.run_from_unsafe w ⟨b,0,none⟩ Tryz.underlying338 Tryz.underlying289 hj mQ acS];simp only[Result.andThen];rw[Oper.upon_value]
 go_wp2
 go_end0
 exact⟨rfl,rfl⟩
def KI(id j n:Nat)(s:aa):dB Tryz.prog 327 [.box id 0] [(id,.fq j n),(j,.ba s)] (.a_ []) [(id,.fq j n),(j,.ba s)]:=⟨fun w O ρ vals ai _ hv=>by
 simp only[Vs,V]at hv;obtain⟨_,_,rfl,⟨l,hl,rfl⟩,rfl⟩:=hv;have hg:ae.get [(id,Ob.fq j n),(j,.ba s)] id=some (.fq j n):=by simp[ae.get]
 obtain⟨l',h1,h2,p,v,h3,h4,h5⟩:=ai.own id _ hg rfl;rw[hl]at h1;cases h1;have hr:V w (Ot O ρ [(id,.fq j n),(j,.ba s)]) ρ (.a_ []) (.tuple #[]):=by simp[V,Vs]
 rcases h4 with rfl|rfl
 ·refine(aev l.b w (by simp[World.cell?,h3]) (by simp[World.shape?,h3]) (by simp[World.frozen?,h3])).mono ?_;rintro e w' ⟨rfl,rfl⟩;have aP:=Tr.cn (o':=.fq j n) ai hg rfl hl (.cells #[.pointer (some ⟨l.b,0,none⟩),v] pN (0,0)) (fun _=>⟨.pointer (some ⟨l.b,0,none⟩),v,by simp[(bH.1 h3).1],.inr rfl,h5⟩);have rU:ae.set [(id,Ob.fq j n),(j,.ba s)] id (.fq j n)=[(id,.fq j n),(j,.ba s)]:=by simp[ae.set]
  rw[rU]at aP;have hw:{w with heap:=w.heap.setIfInBounds l.b (.cells #[.pointer (some ⟨l.b,0,none⟩),v] pN (0,0))}=w.setCell ⟨l.b,0,none⟩ (.pointer (some ⟨l.b,0,none⟩)):=by
   have bA:=(bH.1 h3).1;unfold World.setCell
   congr 1
   apply Iq zS;intro i g1 g2;rw[BQ,G8];have hi:i<w.heap.size:=by simpa using g1
   by_cases e:l.b=i
   ·subst e;have:w.heap[l.b]=.cells #[.pointer none,v] pN (0,0):=qe ((dW bA).symm.trans h3);simp[this]
   ·simp[e]
   ·simpa using g1
  rw[hw]at aP;exact⟨_,ρ,rfl,aP,aP.V hr⟩
 ·refine(aew l.b w (by simp[World.cell?,h3])).mono ?_;rintro e w' ⟨rfl,rfl⟩;exact⟨_,ρ,rfl,Tr.refl ai,hr⟩⟩
set_option maxHeartbeats 1000000 in
set_option maxRecDepth 100000 in
def acT(b g cap:Nat)(p:Value)(cur:Array Value)(l:List UInt8)(w:World)(h0:l≠[])(hbk:w.heap[b]?=some (.cells #[p,.slice (some ⟨g,0,none⟩) l.length cap] 291 (0,0)))(hg:w.heap[g]?=some (.cells cur 5 (0,0)))(wX:l.length<=cap)(wP:cap<=9223372036854775807)(MF:cur.size=cap)(ajJ:cur.toList.take l.length=ij l):
  Calls Tryz.prog 289 #[.pointer (some ⟨b,0,none⟩)] w fun e w'=>e=.returned (.string ⟨l.toArray⟩)/\w'=w.drew.freeze ⟨g,0,none⟩ l.length:=by
 have mixed:=QK;have yG:l.length≠0:=by simpa using h0
 have c1:w.drew.cell? ⟨b,1,none⟩=some (.slice (some ⟨g,0,none⟩) l.length cap):=by
  have:w.drew.heap[b]?=some (.cells #[p,.slice (some ⟨g,0,none⟩) l.length cap] 291 (0,0)):=hbk;rw[Lib.cell_of_heap this];rfl
 have hSD:(Builtin.unsafeSliceData_ #[152] 316 #[.slice (some ⟨g,0,none⟩) l.length cap]).run Tryz.prog w.drew=.ok (.pointer (some ⟨g,0,none⟩)) w.drew:=
  Lib.run_unsafeSliceData_row _ _ _ _ _ _ zO
 have hUS:(Builtin.unsafeString_ #[316,3] 9 #[.pointer (some ⟨g,0,none⟩),.int .i64 l.length]).run Tryz.prog w.drew=.ok (.string ⟨l.toArray⟩) (w.drew.freeze ⟨g,0,none⟩ l.length):=by
  refine Lib.run_unsafeString_row w.drew 316 3 9 5 Tryz.underlying316 LW g cur.size (by have me:w.drew.heap[g]?=some (.cells cur 5 (0,0)):=hg;simp[World.shape?,me]) l h0 zO zO ?_;intro j x hx;have bA:j<l.length:=(cI.1 hx).1;have h1:(cur.toList.take l.length)[j]?=some (Value.int .u8 x.toNat):=by rw[ajJ];simp[ij,hx]
  rw[Er,aV bA]at h1;have me:w.drew.heap[g]?=some (.cells cur 5 (0,0)):=hg;rw[J_];simp only[World.cell?,me];simpa using h1
 go_enter Tryz.func289,Tryz.ntmps289
 go_wp2
 go_region_o
 all_goals(go_wp2;go_ret;exact⟨rfl,rfl⟩)
def Rf(id j n:Nat)(s:aa)(hs:s≠[])(hn:s.length=n)(hb:n<=aD)(aC:Nat.beq id j=false):dB Tryz.prog 289 [.box id 0] [(id,.fq j n),(j,.ba s)] (.str s) [(id,.dead),(j,.dead)]:=⟨fun w O ρ vals ai _ hv=>by
 simp only[Vs,V]at hv;obtain⟨_,_,rfl,⟨l,hl,rfl⟩,rfl⟩:=hv;have Vp:id≠j:=by rintro rfl;simp at aC
 have hg:ae.get [(id,Ob.fq j n),(j,.ba s)] id=some (.fq j n):=by simp[ae.get]
 have U_:ae.get [(id,Ob.fq j n),(j,.ba s)] j=some (.ba s):=by simp[ae.get,aC]
 obtain⟨l',h1,h2,p,v,h3,h4,h5⟩:=ai.own id _ hg rfl;rw[hl]at h1;cases h1;have eS:(Ob.ba s).live=true:=by
  cases s with
  |nil=>exact absurd rfl hs
  |cons r rs=>rfl
 have dQ:n≠0:=by rw[<-hn];exact fun e=>hs (cc.1 e)
 obtain⟨lj,g1,g2,c,g3,g4,g5,g6,g7,g8⟩:=ai.own j _ U_ eS;obtain⟨_,Xb,k1,rfl⟩:n≠0/\∃lj,ρ j=some lj/\v=.slice (some ⟨lj.b,0,none⟩) n lj.cap:=by
  rcases h5 with⟨e,_⟩|h5
  ·exact absurd e dQ
  ·exact h5
 rw[g1]at k1;cases k1;subst hn;refine(acT l.b lj.b lj.cap p c s w hs h3 g3 g6 g7 g5 g8).mono ?_;rintro e w' ⟨rfl,rfl⟩;have s9:(w.drew.freeze ⟨lj.b,0,none⟩ s.length).heap=w.heap.setIfInBounds lj.b (.cells c om (0,s.length)):=by
  have bA:=(bH.1 g3).1;unfold World.freeze;rw[aF dQ];have UV:w.drew.heap=w.heap:=rfl;apply Iq zS;intro i q1 q2;rw[BQ];simp only[UV,G8];by_cases e:lj.b=i
  ·subst e;have:w.heap[lj.b]=.cells c om (0,0):=qe ((dW bA).symm.trans g3);simp[this]
  ·simp[e]
  ·simpa[UV]using q1
 have hos:(w.drew.freeze ⟨lj.b,0,none⟩ s.length).os=w.os/\(w.drew.freeze ⟨lj.b,0,none⟩ s.length).output=w.output/\iE w (w.drew.freeze ⟨lj.b,0,none⟩ s.length):=by
  unfold World.freeze;rw[aF dQ];exact⟨rfl,rfl,.inr trivial⟩
 have MI:∀i x,ae.get [(id,Ob.dead),(j,.dead)] i=some x->x.live=false:=by
  intro i x hx;simp only[ae.bm]at hx;split at hx
  ·cases hx;rfl
  ·split at hx
   ·cases hx;rfl
   ·simp[ae.get]at hx
 have ce:∀b,¬cj ρ [(id,.dead),(j,.dead)] b:=by
  rintro b ⟨i,x,l2,q1,q2,_⟩;rw[MI i x q1]at q2;cases q2
 refine⟨_,ρ,rfl,⟨bN.refl _,by rw[s9];simp,fun b hb ho=>?_,fun b hb=>absurd hb (ce b),⟨fun b hb=>by rw[s9];simpa using ai.lt b hb,fun i hi=>ai.fresh i ?_,fun i x q1 q2=>?_,fun i j' x x' l1 l2 q1 q2 q3=>?_⟩,hos⟩,?_⟩
 ·rw[s9,pG,aF];rintro rfl;exact ho ⟨j,_,lj,U_,eS,g1,rfl⟩
 ·simp only[ae.bm]at hi|-;split at hi
  ·cases hi
  ·split at hi
   ·cases hi
   ·rename_i q1 q2;rw[aF q1,aF q2];rfl
 ·rw[MI i x q1]at q2;cases q2
 ·rw[MI i x q1]at q3;cases q3
 ·simp only[V];exact⟨trivial,hb⟩⟩
@[reducible] def As:aa:=[48,49,50,51,52,53,54,55,56,57]
def afo(c:UInt8):As.contains c=cg c:=by
 have h:∀n:Fin 256,As.contains (UInt8.ofNat n.1)=cg (UInt8.ofNat n.1):=by decide+kernel
 have:=h ⟨c.toNat,c.toNat_lt⟩;simpa using this
def Fs(s:aa):aa:=Lib.trimS s As
def Gu(p:UInt8->Bool)(s:aa):s.dropWhile p=[]↔s.all p=true:=by
 induction s with
 |nil=>simp
 |cons c r ih=>
  by_cases h:p c=true
  ·rw[CR h,ih];simp[h]
  ·rw[CU h];simp[h]
def Gt(p:UInt8->Bool)(s:aa):(s.dropWhile p).length<=s.length:=by
 induction s with
 |nil=>simp
 |cons c r ih=>
  by_cases h:p c=true
  ·rw[CR h];simp;omega
  ·rw[CU h];simp
def SH(p:UInt8->Bool)(s:aa)(h:(s.dropWhile p).all p=true):s.all p=true:=by
 induction s with
 |nil=>rfl
 |cons c r ih=>
  by_cases hc:p c=true
  ·rw[CR hc]at h;simp only[kJ,hc,ih h,Iy]
  ·rw[CU hc]at h;exact h
theorem JF(s:aa):Fs s=[]↔s.all cg=true:=by
 have hp:(As.contains ·)=cg:=funext afo;unfold Fs Lib.trimS Lib.trimLeftS Lib.trimRightS;rw[hp,Gu,Ad];constructor
 ·intro h;have:=SH cg s.reverse h;rwa[Ad]at this
 ·intro h;rw[(Gu cg s.reverse).2 (by rwa[Ad])];rfl
def as8(s:aa):(Fs s).length<=s.length:=by
 unfold Fs Lib.trimS Lib.trimLeftS Lib.trimRightS;refine dM (Gt _ _) ?_;rw[HZ];refine dM (Gt _ _) zS
def as9(s:aa):Fc Tryz.prog 180 [.str s,.str As] (.str (Fs s)):=.rf fun w O ρ vals _ hv=>by
 obtain⟨rfl,hb,_⟩:=hv.Fj;refine(Any.strings_Trim_laid Tryz.WK LW ⟨s.toArray⟩ ⟨As.toArray⟩ w (by simp[ByteArray.size];unfold aD at hb;omega) zD (ascii_of_all zD)).mono ?_;rintro e w' ⟨rfl,hw⟩;refine⟨_,rfl,?_,gm.below hw⟩;have:=as8 s;simp only[V];exact⟨rfl,by omega⟩
end Go.T
namespace Go.T
open Go
def dv(l:List Nat):Nat:=l.getLastD default
def w5{l pre rest:List Nat}{n:Int}(h:l=pre++rest)(h0:0<pre.length)(hn:n=(pre.length:Int)-1):(bG l)[n.toNat]?=some [.raw (.int .u64 (dv pre:Int))]:=Bg (fun(n:Nat)=>[D.raw (.int .u64 (n:Int))]) h h0 hn
def tX(y:Nat):aa:=List.replicate (9-(Lib.decDigits y).length) 48++Lib.decDigits y
def oM(lo:List Nat):aa:=(lo.reverse.map tX).flatten
def Y4:oM []=[]:=rfl
def IQ(i:List Nat)(x:Nat):oM (i++[x])=tX x++oM i:=by simp[oM]
def Y5{lo:List Nat}(h:lo.length≠0):oM lo=tX (dv lo)++oM lo.dropLast:=by
 rcases np lo with rfl|⟨i,x,rfl⟩
 ·simp at h
 ·rw[IQ];simp[dv]
def vW(dw:Bool)(m:List Nat):aa:=if(bu m).length=0 then[]else(if dw then[45]else[])++Lib.decDigits (dv (bu m))++oM (bu m).dropLast
def Ap{y:Nat}(h:y<gB):(Lib.decDigits y).length<=9:=by
 by_cases e:y=0
 ·subst e;rw[Lib.decDigits_length,Lib.nDigits_small zO];omega
 ·rw[Aq y e];exact BH 9 y (by unfold gB at h;omega)
def aoA{y:Nat}(h:y<gB):(tX y).length=9:=by
 have:=Ap h;simp[tX];omega
def yY{l:List Nat}(h:l.length≠0):dv l∈l:=by
 rcases np l with rfl|⟨i,x,rfl⟩
 ·simp at h
 ·simp[dv]
def uw{l:List Nat}(h:l.length≠0):l=l.dropLast++[dv l]:=by
 rcases np l with rfl|⟨i,x,rfl⟩
 ·simp at h
 ·simp[dv]
def KS(y:Nat):Lib.decDigits y≠[]:=by
 intro h;have:=aT List.length h;rw[Lib.decDigits_length]at this;rw[Lib.nDigits]at this;split at this<;>simp at this
def anj(k:Nat):natVal (List.replicate k 48)=0:=by
 induction k with
 |zero=>rfl
 |succ k ih=>rw[List.replicate_succ',vi,ih];rfl
def Yg(y:Nat):natVal (Lib.decDigits y)=y:=by
 by_cases e:y=0
 ·subst e;rw[Lib.decDigits];rfl
 ·rw[Aq y e,Yh]
def anh(y:Nat):natVal (tX y)=y:=by
 unfold tX;rw[xm,anj,Yg];omega
def Y3{lo:List Nat}(h:aZ lo):(oM lo).length=9*lo.length:=by
 induction lo using su with
 |h0=>rfl
 |h1 i x ih=>
  rw[IQ,bl,aoA (h x zS),ih (fun y hy=>h y (by simp[hy]))];simp;omega
def ani{lo:List Nat}(h:aZ lo):natVal (oM lo)=an lo:=by
 induction lo using su with
 |h0=>rfl
 |h1 i x ih=>
  have hi:aZ i:=fun y hy=>h y (by simp[hy]);rw[IQ,xm,anh,ih hi,xk,Y3 hi];have:(10:Nat)^(9*i.length)=gB^i.length:=by rw[Nat.pow_mul];rfl
  rw[this];simp only[an,rm,pL];rw[fO x];omega
def R8(y:Nat):(Lib.decDigits y).all cg=true:=by
 by_cases e:y=0
 ·subst e;rw[Lib.decDigits];decide
 ·rw[Aq y e];exact Es y
def aoB(lo:List Nat):(oM lo).all cg=true:=by
 induction lo using su with
 |h0=>rfl
 |h1 i x ih=>
  rw[IQ,lE,ih,AA];unfold tX;rw[lE,R8,AA];simp[cg]
def Iw{s:aa}(hd:s.all cg=true)(h0:ff s=s):s=gK (natVal s):=by
 induction s using su with
 |h0=>rw[show natVal []=0 from rfl,kK]
 |h1 i x ih=>
  rw[lE,bd]at hd;have hx:=hd.2;simp only[kJ,JK,AA,cg,bd,cd]at hx;rw[vi];have VM:UInt8.ofNat (48+(x.toNat-48))=x:=by
   rw[show 48+(x.toNat-48)=x.toNat by omega];simp
  cases i with
  |nil=>
   have aC:x.toNat≠48:=by
    intro e;have:=CV (s:=[x]) zS (by simpa using e);simp only[q_]at h0;rw[h0]at this;simp[ff]at this
   rw[show natVal ([]:aa)=0 from rfl,tQ zO];have h1:(10*0+(x.toNat-48))/10=0:=by omega
   have h2:(10*0+(x.toNat-48))%10=x.toNat-48:=by omega
   rw[h1,h2,kK,VM]
  |cons c r=>
   have hc:ff (c::r)=c::r:=by
    apply wB;rintro⟨_,e⟩;have:=CV (s:=c::r++[x]) zS (by simpa using e);rw[h0]at this;have h3:=Gs ((c::r++[x]).drop 1);rw[<-this]at h3;simp at h3;omega
   have hi:=ih hd.1 hc;have Nd:natVal (c::r)≠0:=by
    intro e;rw[e,kK]at hi;cases hi
   rw[tQ zO];have h1:(10*natVal (c::r)+(x.toNat-48))/10=natVal (c::r):=by omega
   have h2:(10*natVal (c::r)+(x.toNat-48))%10=x.toNat-48:=by omega
   rw[h1,h2,<-hi,VM]
def Fp(dw:Bool){m:List Nat}(h:aZ m):vW dw m=ofInt (if dw then -(an m:Int)else an m):=by
 unfold vW;have hc:=An h;have hv:=Gd m;split
 ·rename_i h0;have:bu m=[]:=cc.1 h0;rw[this]at hv;rw[<-hv];simp[an,OP]
 ·rename_i h0;have e:=uw h0;have Vi:dv (bu m)≠0:=by
   rcases np (bu m)with e2|⟨i,x,e2⟩
   ·rw[e2]at h0;simp at h0
   ·rw[e2];simp only[dv,vX,List.getLast?_append,List.getLast?_singleton,Option.some_or,l8];intro ex;subst ex;have:bu (bu m)=bu m:=by
     unfold bu;rw[G9];have:∀l:List Nat,(l.dropWhile (· ==0)).dropWhile (· ==0)=l.dropWhile (· ==0):=by
      intro l;induction l with
      |nil=>rfl
      |cons a l ih=>by_cases ha:a=0<;>simp[ha,ih]
     rw[this]
    rw[e2,ur]at this;have h3:=wy i;rw[this]at h3;simp at h3;omega
  have qI:aZ (bu m).dropLast:=fun y hy=>hc y (List.dropLast_subset _ hy);have Vo:an m=natVal (Lib.decDigits (dv (bu m))++oM (bu m).dropLast):=by
   rw[xm,Yg,ani qI,Y3 qI,<-hv];conv=>lhs;rw[e]
   rw[xk];have:(10:Nat)^(9*(bu m).dropLast.length)=gB^(bu m).dropLast.length:=by rw[Nat.pow_mul];rfl
   rw[this];simp only[an,rm,pL];rw[fO (dv (bu m))];omega
  have UW:(Lib.decDigits (dv (bu m))++oM (bu m).dropLast).all cg=true:=by rw[lE,R8,aoB];rfl
  have hz:ff (Lib.decDigits (dv (bu m))++oM (bu m).dropLast)=Lib.decDigits (dv (bu m))++oM (bu m).dropLast:=by
   rw[Aq _ Vi];apply wB;rintro⟨_,e3⟩;cases hd:gK (dv (bu m))with
   |nil=>exact Vi (Et.1 hd)
   |cons c r=>rw[hd]at e3;exact OB _ c r hd (by simpa using e3)
  have Nd:an m≠0:=by
   intro e3;have h4:=Iw UW hz;rw[<-Vo,e3,kK]at h4;have:=KS (dv (bu m));exact this (List.append_eq_nil_iff.1 h4).1
  have hu:=Iw UW hz;rw[<-Vo]at hu;cases dw with
  |false=>
   simp only[gM,pb,q_,hu];unfold ofInt;rw[aF zO];simp
  |true=>
   simp only[mX,ng,hu];unfold ofInt;rw[aV zO];simp
def iG:List Nat->List Nat->Nat->List Nat
 |[],_,c=>if 0<c then[c]else[]
 |a::x,[],c=>(a+c)%gB::iG x [] ((a+c)/gB)
 |a::x,b::y,c=>(a+c+b)%gB::iG x y ((a+c+b)/gB)
def ed:0<gB:=by unfold gB;omega
theorem FR:∀(x y:List Nat)(c:Nat),y.length<=x.length->an (iG x y c)=an x+an y+c
 |[],y,c,h=>by
  have:y=[]:=cc.1 (by simpa using h);subst this;simp only[iG];split
  ·simp[an]
  ·simp[an];omega
 |a::x,[],c,h=>by
  simp only[iG,an,FR x [] _ zS];have:=y9 (a+c) gB;rw[jN,jN];omega
 |a::x,b::y,c,h=>by
  simp only[iG,an,FR x y _ (by simpa using h)];have:=y9 (a+c+b) gB;rw[jN,jN];omega
theorem FQ:∀(x y:List Nat)(c:Nat),aZ x->aZ y->c<=1->aZ (iG x y c)
 |[],y,c,hx,hy,hc=>by
  simp only[iG];split
  ·intro z hz;simp at hz;subst hz;unfold gB;omega
  ·intro z hz;simp at hz
 |a::x,[],c,hx,hy,hc=>by
  have ha:=hx a zS;simp only[iG];intro z hz;rcases cr.1 hz with rfl|hz
  ·exact n0 _ ed
  ·exact FQ x [] _ (fun u hu=>hx u (by simp[hu])) hy (by rw[qw ed];unfold gB at*;omega) z hz
 |a::x,b::y,c,hx,hy,hc=>by
  have ha:=hx a zS;have hb:=hy b zS;simp only[iG];intro z hz;rcases cr.1 hz with rfl|hz
  ·exact n0 _ ed
  ·exact FQ x y _ (fun u hu=>hx u (by simp[hu])) (fun u hu=>hy u (by simp[hu])) (by rw[qw ed];unfold gB at*;omega) z hz
theorem FP:∀(x y:List Nat)(c:Nat),(iG x y c).length<=x.length+1
 |[],y,c=>by simp only[iG];split<;>simp
 |a::x,[],c=>by simp only[iG,bD];have:=FP x [] ((a+c)/gB);omega
 |a::x,b::y,c=>by simp only[iG,bD];have:=FP x y ((a+c+b)/gB);omega
def nX(x y:List Nat):List Nat:=if x.length<y.length then iG y x 0 else iG x y 0
def Pj(x y:List Nat):an (nX x y)=an x+an y:=by
 unfold nX;split
 ·rw[FR _ _ _ zO];omega
 ·rw[FR _ _ _ zO];omega
def I4{x y:List Nat}(hx:aZ x)(hy:aZ y):aZ (nX x y):=by
 unfold nX;split
 ·exact FQ _ _ _ hy hx zO
 ·exact FQ _ _ _ hx hy zO
def Ph(x y:List Nat):(nX x y).length<=x.length+y.length+1:=by
 unfold nX;split
 ·have:=FP y x 0;omega
 ·have:=FP x y 0;omega
def gw:List Nat->List Nat->Nat->List Nat
 |[],_,_=>[]
 |a::x,[],c=>(if a<c then a+gB-c else a-c)::gw x [] (if a<c then 1 else 0)
 |a::x,b::y,c=>(if a<c+b then a+gB-(c+b)else a-(c+b))::gw x y (if a<c+b then 1 else 0)
theorem vV:∀(x y:List Nat)(c:Nat),aZ x->aZ y->c<=1->an y+c<=an x->an (gw x y c)=an x-(an y+c)
 |[],y,c,hx,hy,hc,h=>by
  simp only[an]at h;simp[gw,an]
 |a::x,[],c,hx,hy,hc,h=>by
  have ha:=hx a zS;have k9:aZ x:=fun u hu=>hx u (by simp[hu]);simp only[an]at h;simp only[gw,an];by_cases hl:a<c
  ·rw[aV hl,aV hl];have h1:1<=an x:=by
    rcases ko (an x)with e|e
    ·rw[e]at h;omega
    ·exact e
   rw[vV x [] 1 k9 hy zO (by simp only[an];omega)];simp only[an];have:gB*(an x-(0+1))=gB*an x-gB:=by rw[Nat.mul_sub];omega
   rw[this];have:gB*1<=gB*an x:=jg _ h1;unfold gB at*;omega
  ·rw[aF hl,aF hl,vV x [] 0 k9 hy zO (by simp only[an];omega)];simp only[an];rw[show an x-(0+0)=an x from by omega];omega
 |a::x,b::y,c,hx,hy,hc,h=>by
  have ha:=hx a zS;have hb:=hy b zS;have k9:aZ x:=fun u hu=>hx u (by simp[hu]);have yQ:aZ y:=fun u hu=>hy u (by simp[hu]);simp only[an]at h;simp only[gw,an];by_cases hl:a<c+b
  ·rw[aV hl,aV hl];have h1:an y+1<=an x:=by
    rcases eQ (an y) (an x)with e|e
    ·omega
    ·have:=jg gB e;omega
   rw[vV x y 1 k9 yQ zO h1];have e1:gB*(an x-(an y+1))=gB*an x-(gB*an y+gB):=by rw[Nat.mul_sub,jN,v8]
   have e2:=jg gB h1;rw[jN,v8]at e2;rw[e1];omega
  ·rw[aF hl,aF hl];have h1:an y<=an x:=by
    rcases eQ (an x) (an y)with e|e
    ·have:=jg gB (show an x+1<=an y from e);rw[jN]at this;unfold gB at*;omega
    ·exact e
   rw[vV x y 0 k9 yQ zO h1,pL,Nat.mul_sub];have:=jg gB h1;omega
theorem zL:∀(x y:List Nat)(c:Nat),aZ x->aZ y->c<=1->aZ (gw x y c)
 |[],y,c,hx,hy,hc=>by intro z hz;simp[gw]at hz
 |a::x,[],c,hx,hy,hc=>by
  have ha:=hx a zS;intro z hz;simp only[gw,cr]at hz;rcases hz with rfl|hz
  ·split<;>omega
  ·exact zL x [] _ (fun u hu=>hx u (by simp[hu])) hy (by split<;>omega) z hz
 |a::x,b::y,c,hx,hy,hc=>by
  have ha:=hx a zS;have hb:=hy b zS;intro z hz;simp only[gw,cr]at hz;rcases hz with rfl|hz
  ·split<;>omega
  ·exact zL x y _ (fun u hu=>hx u (by simp[hu])) (fun u hu=>hy u (by simp[hu])) (by split<;>omega) z hz
theorem Fk:∀(x y:List Nat)(c:Nat),(gw x y c).length=x.length
 |[],y,c=>by simp[gw]
 |a::x,[],c=>by simp[gw,Fk x]
 |a::x,b::y,c=>by simp[gw,Fk x]
def jl:List Nat->List Nat->Int
 |a::x,b::y=>if a<b then -1 else if b<a then 1 else jl x y
 |_,_=>0
def jc(x y:List Nat):Int:=if x.length≠y.length then(x.length:Int)-y.length else jl x.reverse y.reverse
end Go.T
