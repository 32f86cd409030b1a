/-
  Contracts of the functions that the statement reaches, and the logic in which they are proved (no condition): parts Shelf, S1, S2, S3, S4, Spec9, Spec10.
-/
import Derived.Test.YtapflgppmigcdaaGreatDoorA07
import Derived.Shelf.Strings.Builder1
import Derived.Shelf.Strings.Builder2
import Derived.Shelf.Strings.Trim
import Derived.Shelf.Small.Utf8
import Derived.Shelf.Small.Bits
import Derived.Shelf.Small.Strs
import Derived.Shelf.Small.Wraps
import Derived.Shelf.Strings.BuilderF
import Derived.Shelf.Strings.BuilderK
import Derived.Shelf.Utf8.RuneCount
import Derived.Shelf.Strconv.Atoi
import Derived.Shelf.Strconv.Itoa0
import Derived.Shelf.Strconv.Itoa1
import Derived.Shelf.LaysM
import Derived.Shelf.Strconv.Itoa2
import Derived.Shelf.Strconv.Itoa3
import Derived.Shelf.Strconv.AtoiErrFast
import Derived.Shelf.Strconv.ParseIntEmpty
import Derived.Shelf.Strconv.AtoiFail
import Derived.Shelf.Strconv.Clone
import Derived.Shelf.Strconv.SyntaxError
import Derived.Shelf.LaysC
import Derived.Shelf.Strconv.ToError
import Derived.Shelf.Strconv.Lower
import Derived.Shelf.Strconv.ParseUint10
import Derived.Shelf.Strconv.ParseUint10Empty
import Derived.Shelf.Strconv.ParseUint10Any
import Derived.Shelf.Strconv.ParseInt10
import Derived.Shelf.Strconv.AtoiLong
import Derived.Shelf.Strconv.AtoiInnerAll
import Derived.Shelf.Strconv.RangeError
import Derived.Shelf.Strconv.ToErrorRange
import Derived.Shelf.Strconv.AtoiAll
import Derived.Shelf.Strconv.ParseUint10b64
import Derived.Ground.MpProg
import Derived.Shelf.Pu.ParseUintPublic10
import Derived.Shelf.Strings.Search1
import Derived.Shelf.Strings.Search2
import Derived.Shelf.Strings.Search3
import Derived.Shelf.Strings.Cut
import Derived.Shelf.Strings.Count
import Derived.Shelf.Strings.Shaped
import Derived.Shelf.Strings.Prefix
import Derived.Shelf.Strings.Split
import Derived.Shelf.Strings.SplitShaped
import Derived.Shelf.Unicode.Decode
import Derived.Shelf.Strings.Runes
import Derived.Shelf.Strings.RuneCount
import Derived.Shelf.Strings.AsciiSet
import Derived.Shelf.Strings.Explode
import Derived.Shelf.Bits.Mul64
import Derived.Shelf.Strings.Repeat
import Derived.Shelf.Unicode.DecodeSlow
import Derived.Shelf.Unicode.DecodeAny
import Derived.Shelf.Unicode.DecodeLast
import Derived.Shelf.Slices.CompactS
import Derived.Ground.Names2Prog
import Derived.Shelf.Slices.SearchI
import Derived.Shelf.Slices.Cells
import Derived.Ground.SlsfProg
import Derived.Shelf.SlSortCmp.Insertion
import Derived.Ground.SlgmProg
import Derived.Shelf.SortM.Plain
import Derived.Shelf.SortM.SortNone
import Derived.Shelf.SlSortCmp.SiftDown1
import Derived.Shelf.SlSortCmp.HeapSort1
import Derived.Shelf.SlSortCmp.Insertion1
import Derived.Shelf.SlSortCmp.Median1
import Derived.Shelf.SlSortCmp.Pivot1
import Derived.Shelf.SlSortCmp.ReverseRange1
import Derived.Shelf.SlSortCmp.PartialInsertion1
import Derived.Shelf.SlSortCmp.PartitionEqual1
import Derived.Shelf.SlSortCmp.Partition1
import Derived.Shelf.SlSortCmp.Pdq1
import Derived.Shelf.SlSortCmp.Whole1
import Derived.Shelf.SlSortCmp.NoneTotal
import Derived.WalkKit
import Derived.BigCall
import Derived.BigGuard
import Derived.Lib.ItoaMem
import Derived.Lib.Walk
import Derived.Shelf.Strings.SlTrimAscii
set_option linter.all false
namespace Go.Proofs
open Go.Shelf
def Tryz.agn:Go.Shelf.Ren:=⟨fun|161=>325|231=>226|227=>228|233=>229|235=>231|228=>273|197=>263|151=>274|260=>299|152=>315|137=>341|119=>342|224=>302|225=>301|217=>300|266=>336|n=>n,fun|9=>9|4=>4|3=>3|5=>5|117=>232|116=>231|0=>0|124=>235|105=>270|21=>21|119=>318|46=>142|139=>321|138=>320|n=>n,fun|3=>1|4=>2|n=>n⟩
theorem Tryz.agm:Go.Proofs.Lays.n161 Tryz.prog Tryz.agn:={
 mixed:=by kernel_rfl
 f119:=Tryz.func342.trans (congrArg some (by kernel_rfl))
 f137:=Tryz.func341.trans (congrArg some (by kernel_rfl))
 f151:=Tryz.func274.trans (congrArg some (by kernel_rfl))
 f152:=Tryz.func315.trans (congrArg some (by kernel_rfl))
 f161:=Tryz.func325.trans (congrArg some (by kernel_rfl))
 f197:=Tryz.func263.trans (congrArg some (by kernel_rfl))
 f217:=Tryz.func300.trans (congrArg some (by kernel_rfl))
 f224:=Tryz.func302.trans (congrArg some (by kernel_rfl))
 f225:=Tryz.func301.trans (congrArg some (by kernel_rfl))
 f227:=Tryz.func228.trans (congrArg some (by kernel_rfl))
 f228:=Tryz.func273.trans (congrArg some (by kernel_rfl))
 f231:=Tryz.func226.trans (congrArg some (by kernel_rfl))
 f233:=Tryz.func229.trans (congrArg some (by kernel_rfl))
 f235:=Tryz.func231.trans (congrArg some (by kernel_rfl))
 f260:=Tryz.func299.trans (congrArg some (by kernel_rfl))
 f266:=Tryz.func336.trans (congrArg some (by kernel_rfl))
 t0:=Tryz.underlying0
 a0:=Tryz.isAgg0
 z0:=Tryz.sizeOf0
 v0:=Tryz.zeroValue0
 t3:=Tryz.underlying3
 a3:=Tryz.isAgg3
 z3:=Tryz.sizeOf3
 v3:=Tryz.zeroValue3
 t4:=Tryz.underlying4
 a4:=Tryz.isAgg4
 z4:=Tryz.sizeOf4
 v4:=Tryz.zeroValue4
 t5:=Tryz.underlying5
 a5:=Tryz.isAgg5
 z5:=Tryz.sizeOf5
 v5:=Tryz.zeroValue5
 t9:=Tryz.underlying9
 a9:=Tryz.isAgg9
 z9:=Tryz.sizeOf9
 v9:=Tryz.zeroValue9
 t21:=Tryz.underlying21
 a21:=Tryz.isAgg21
 z21:=Tryz.sizeOf21
 v21:=Tryz.zeroValue21
 t46:=Tryz.underlying142
 a46:=Tryz.isAgg142
 z46:=Tryz.sizeOf142
 v46:=Tryz.zeroValue142
 t105:=Tryz.underlying270
 a105:=Tryz.isAgg270
 z105:=Tryz.sizeOf270
 v105:=Tryz.zeroValue270
 t116:=Tryz.underlying231
 a116:=Tryz.isAgg231
 z116:=Tryz.sizeOf231
 t117:=Tryz.underlying232
 a117:=Tryz.isAgg232
 z117:=Tryz.sizeOf232
 v117:=Tryz.zeroValue232
 t119:=Tryz.underlying318
 a119:=Tryz.isAgg318
 z119:=Tryz.sizeOf318
 t124:=Tryz.underlying235
 a124:=Tryz.isAgg235
 z124:=Tryz.sizeOf235
 v124:=Tryz.zeroValue235
 t138:=Tryz.underlying320
 a138:=Tryz.isAgg320
 z138:=Tryz.sizeOf320
 v138:=Tryz.zeroValue320
 t139:=Tryz.underlying321
 a139:=Tryz.isAgg321
 z139:=Tryz.sizeOf321
 v139:=Tryz.zeroValue321
 g3:=by kernel_rfl
 g4:=by kernel_rfl}
open Go.RowKit in
theorem Tryz.strings_TrimLeft_one(s:ByteArray)(c:UInt8)(hc:c.toNat<128)(w:World):
  Calls Tryz.prog 325 #[.string s,.string ⟨#[c]⟩] w fun e w'=>e=.returned (.string ⟨(Lib.trimLeftB s.data.toList c).toArray⟩)∧w'=w:=Any.strings_TrimLeft_one Tryz.agm s c hc w
def Tryz.agl:Go.Shelf.Ren:=⟨fun|160=>180|232=>227|231=>226|227=>228|234=>230|233=>229|236=>232|235=>231|228=>273|271=>275|151=>274|197=>263|120=>316|152=>315|260=>299|137=>341|119=>342|224=>302|225=>301|217=>300|266=>336|n=>n,fun|9=>9|4=>4|3=>3|5=>5|117=>232|116=>231|0=>0|124=>235|21=>21|105=>270|46=>142|119=>318|139=>321|138=>320|n=>n,fun|3=>1|4=>2|n=>n⟩
theorem Tryz.Sv:Go.Proofs.Lays.n160 Tryz.prog Tryz.agl:={
 mixed:=by kernel_rfl
 f119:=Tryz.func342.trans (congrArg some (by kernel_rfl))
 f120:=Tryz.func316.trans (congrArg some (by kernel_rfl))
 f137:=Tryz.func341.trans (congrArg some (by kernel_rfl))
 f151:=Tryz.func274.trans (congrArg some (by kernel_rfl))
 f152:=Tryz.func315.trans (congrArg some (by kernel_rfl))
 f160:=Tryz.func180.trans (congrArg some (by kernel_rfl))
 f197:=Tryz.func263.trans (congrArg some (by kernel_rfl))
 f217:=Tryz.func300.trans (congrArg some (by kernel_rfl))
 f224:=Tryz.func302.trans (congrArg some (by kernel_rfl))
 f225:=Tryz.func301.trans (congrArg some (by kernel_rfl))
 f227:=Tryz.func228.trans (congrArg some (by kernel_rfl))
 f228:=Tryz.func273.trans (congrArg some (by kernel_rfl))
 f231:=Tryz.func226.trans (congrArg some (by kernel_rfl))
 f232:=Tryz.func227.trans (congrArg some (by kernel_rfl))
 f233:=Tryz.func229.trans (congrArg some (by kernel_rfl))
 f234:=Tryz.func230.trans (congrArg some (by kernel_rfl))
 f235:=Tryz.func231.trans (congrArg some (by kernel_rfl))
 f236:=Tryz.func232.trans (congrArg some (by kernel_rfl))
 f260:=Tryz.func299.trans (congrArg some (by kernel_rfl))
 f266:=Tryz.func336.trans (congrArg some (by kernel_rfl))
 f271:=Tryz.func275.trans (congrArg some (by kernel_rfl))
 t0:=Tryz.underlying0
 a0:=Tryz.isAgg0
 z0:=Tryz.sizeOf0
 v0:=Tryz.zeroValue0
 t3:=Tryz.underlying3
 a3:=Tryz.isAgg3
 z3:=Tryz.sizeOf3
 v3:=Tryz.zeroValue3
 t4:=Tryz.underlying4
 a4:=Tryz.isAgg4
 z4:=Tryz.sizeOf4
 v4:=Tryz.zeroValue4
 t5:=Tryz.underlying5
 a5:=Tryz.isAgg5
 z5:=Tryz.sizeOf5
 v5:=Tryz.zeroValue5
 t9:=Tryz.underlying9
 a9:=Tryz.isAgg9
 z9:=Tryz.sizeOf9
 v9:=Tryz.zeroValue9
 t21:=Tryz.underlying21
 a21:=Tryz.isAgg21
 z21:=Tryz.sizeOf21
 v21:=Tryz.zeroValue21
 t46:=Tryz.underlying142
 a46:=Tryz.isAgg142
 z46:=Tryz.sizeOf142
 v46:=Tryz.zeroValue142
 t105:=Tryz.underlying270
 a105:=Tryz.isAgg270
 z105:=Tryz.sizeOf270
 v105:=Tryz.zeroValue270
 t116:=Tryz.underlying231
 a116:=Tryz.isAgg231
 z116:=Tryz.sizeOf231
 t117:=Tryz.underlying232
 a117:=Tryz.isAgg232
 z117:=Tryz.sizeOf232
 v117:=Tryz.zeroValue232
 t119:=Tryz.underlying318
 a119:=Tryz.isAgg318
 z119:=Tryz.sizeOf318
 t124:=Tryz.underlying235
 a124:=Tryz.isAgg235
 z124:=Tryz.sizeOf235
 v124:=Tryz.zeroValue235
 t138:=Tryz.underlying320
 a138:=Tryz.isAgg320
 z138:=Tryz.sizeOf320
 v138:=Tryz.zeroValue320
 t139:=Tryz.underlying321
 a139:=Tryz.isAgg321
 z139:=Tryz.sizeOf321
 v139:=Tryz.zeroValue321
 g3:=by kernel_rfl
 g4:=by kernel_rfl}
def Tryz.agj:Go.Shelf.Ren:=⟨fun|103=>324|210=>349|206=>314|n=>n,fun|9=>9|4=>4|24=>161|3=>3|n=>n,fun|n=>n⟩
theorem Tryz.agi:Go.Proofs.Lays.n103 Tryz.prog Tryz.agj:={
 mixed:=by kernel_rfl
 f103:=Tryz.func324.trans (congrArg some (by kernel_rfl))
 f206:=Tryz.func314.trans (congrArg some (by kernel_rfl))
 f210:=Tryz.func349.trans (congrArg some (by kernel_rfl))
 t3:=Tryz.underlying3
 a3:=Tryz.isAgg3
 z3:=Tryz.sizeOf3
 v3:=Tryz.zeroValue3
 t4:=Tryz.underlying4
 a4:=Tryz.isAgg4
 z4:=Tryz.sizeOf4
 v4:=Tryz.zeroValue4
 t9:=Tryz.underlying9
 a9:=Tryz.isAgg9
 z9:=Tryz.sizeOf9
 v9:=Tryz.zeroValue9
 t24:=Tryz.underlying161
 a24:=Tryz.isAgg161
 z24:=Tryz.sizeOf161
 v24:=Tryz.zeroValue161}
open Go.RowKit in
theorem Tryz.strings_CutPrefix(s p:ByteArray)(w:World):
  Calls Tryz.prog 324 #[.string s,.string p] w fun e w'=>e=.returned (.tuple #[.string ⟨(Lib.trimPrefix s.data.toList p.data.toList).toArray⟩,.bool (Lib.hasPrefix s.data.toList p.data.toList)])∧w'=w:=Any.strings_CutPrefix Tryz.agi s p w
def Tryz.ags:Go.Shelf.Ren:=⟨fun|283=>345|n=>n,fun|3=>3|9=>9|4=>4|n=>n,fun|n=>n⟩
theorem Tryz.agr:Go.Proofs.Lays.n283 Tryz.prog Tryz.ags:={
 mixed:=by kernel_rfl
 f283:=Tryz.func345.trans (congrArg some (by kernel_rfl))
 t3:=Tryz.underlying3
 a3:=Tryz.isAgg3
 z3:=Tryz.sizeOf3
 v3:=Tryz.zeroValue3
 t4:=Tryz.underlying4
 a4:=Tryz.isAgg4
 z4:=Tryz.sizeOf4
 v4:=Tryz.zeroValue4
 t9:=Tryz.underlying9
 a9:=Tryz.isAgg9
 z9:=Tryz.sizeOf9
 v9:=Tryz.zeroValue9}
open Go.Lib in
theorem Tryz.internal_strconv_small(i:Nat)(h:i<100)(w:World):
  Calls Tryz.prog 345 #[.int .i64 i] w fun e w'=>e=.returned (.string ⟨(Lib.decDigits i).toArray⟩)∧w'=w:=Any.internal_strconv_small Tryz.agr i h w
def Tryz.agz:Go.Shelf.Ren:=⟨fun|284=>346|129=>158|317=>359|318=>360|n=>n,fun|53=>184|3=>3|212=>350|0=>0|4=>4|46=>142|5=>5|9=>9|n=>n,fun|17=>5|n=>n⟩
theorem Tryz.agy:Go.Proofs.LaysM.n284 Tryz.prog Tryz.agz:={
 mixed:=by kernel_rfl
 f129:=Tryz.func158.trans (congrArg some (by kernel_rfl))
 f284:=Tryz.func346.trans (congrArg some (by kernel_rfl))
 f317:=Tryz.func359.trans (congrArg some (by kernel_rfl))
 f318:=Tryz.func360.trans (congrArg some (by kernel_rfl))
 t0:=Tryz.underlying0
 a0:=Tryz.isAgg0
 z0:=Tryz.sizeOf0
 v0:=Tryz.zeroValue0
 t3:=Tryz.underlying3
 a3:=Tryz.isAgg3
 z3:=Tryz.sizeOf3
 v3:=Tryz.zeroValue3
 t4:=Tryz.underlying4
 a4:=Tryz.isAgg4
 z4:=Tryz.sizeOf4
 v4:=Tryz.zeroValue4
 t5:=Tryz.underlying5
 a5:=Tryz.isAgg5
 z5:=Tryz.sizeOf5
 v5:=Tryz.zeroValue5
 t9:=Tryz.underlying9
 a9:=Tryz.isAgg9
 z9:=Tryz.sizeOf9
 v9:=Tryz.zeroValue9
 t46:=Tryz.underlying142
 a46:=Tryz.isAgg142
 z46:=Tryz.sizeOf142
 v46:=Tryz.zeroValue142
 t53:=Tryz.underlying184
 a53:=Tryz.isAgg184
 z53:=Tryz.sizeOf184
 v53:=Tryz.zeroValue184
 t212:=Tryz.underlying350
 a212:=Tryz.isAgg350
 z212:=Tryz.sizeOf350
 v212:=Tryz.zeroValue350
 g17:=by kernel_rfl
 i0:=by kernel_rfl
 i3:=by kernel_rfl
 i4:=by kernel_rfl
 i5:=by kernel_rfl
 i9:=by kernel_rfl
 i46:=by kernel_rfl
 i53:=by kernel_rfl
 i212:=by kernel_rfl
 m17:=by kernel_rfl}
open Go.Lib in
theorem Tryz.internal_strconv_numDigits(u:Nat)(h1:1≤u)(h2:u<18446744073709551616)(w:World)(Bz:Lib.TabIs Tryz.prog w "internal/strconv.uint64pow10" .u64 Lib.pow10Tab):
  Calls Tryz.prog 346 #[.int .u64 u] w fun e w'=>e=.returned (.int .i64 (Lib.nDigits u))∧w'=w:=Any.internal_strconv_numDigits Tryz.agy u h1 h2 w Bz
def Tryz.agu:Go.Shelf.Ren:=⟨fun|285=>347|n=>n,fun|37=>152|53=>184|3=>3|4=>4|51=>182|9=>9|5=>5|0=>0|n=>n,fun|n=>n⟩
theorem Tryz.agt:Go.Proofs.Lays.n285 Tryz.prog Tryz.agu:={
 mixed:=by kernel_rfl
 f285:=Tryz.func347.trans (congrArg some (by kernel_rfl))
 t0:=Tryz.underlying0
 a0:=Tryz.isAgg0
 z0:=Tryz.sizeOf0
 v0:=Tryz.zeroValue0
 t3:=Tryz.underlying3
 a3:=Tryz.isAgg3
 z3:=Tryz.sizeOf3
 v3:=Tryz.zeroValue3
 t4:=Tryz.underlying4
 a4:=Tryz.isAgg4
 z4:=Tryz.sizeOf4
 v4:=Tryz.zeroValue4
 t5:=Tryz.underlying5
 a5:=Tryz.isAgg5
 z5:=Tryz.sizeOf5
 v5:=Tryz.zeroValue5
 t9:=Tryz.underlying9
 a9:=Tryz.isAgg9
 z9:=Tryz.sizeOf9
 v9:=Tryz.zeroValue9
 t37:=Tryz.underlying152
 a37:=Tryz.isAgg152
 z37:=Tryz.sizeOf152
 v37:=Tryz.zeroValue152
 t51:=Tryz.underlying182
 a51:=Tryz.isAgg182
 z51:=Tryz.sizeOf182
 v51:=Tryz.zeroValue182
 t53:=Tryz.underlying184
 a53:=Tryz.isAgg184
 z53:=Tryz.sizeOf184
 v53:=Tryz.zeroValue184}
open Go.RowKit Go.Sort Go.Lib in
theorem Tryz.internal_strconv_formatBase10(b_ off cap:Nat)(u:Nat)(d:Array UInt8)(w:World)(hH:Holds (fun(b:UInt8)=>Value.int .u8 (b.toNat:Int)) w b_ off d)(hu:u<10^d.size)(BC:u<18446744073709551616)(aY:d.size<4611686018427387904):
  Calls Tryz.prog 347 #[.slice (some ⟨b_,off,none⟩) d.size cap,.int .u64 u] w fun e w'=>
   e=.returned (.tuple #[])∧∃(n v':Nat) (dk:Array UInt8),w'=(putRow (fun(b:UInt8)=>Value.int .u8 (b.toNat:Int)) w b_ off dk).drewN n∧FmtInv d.size u 0 v' dk:=Any.internal_strconv_formatBase10 Tryz.agt b_ off cap u d w hH hu BC aY
def Tryz.agx:Go.Shelf.Ren:=⟨fun|171=>235|243=>279|246=>322|283=>345|284=>346|285=>347|286=>348|129=>158|317=>359|318=>360|319=>361|320=>362|337=>365|338=>366|n=>n,fun|3=>3|9=>9|2=>2|4=>4|171=>333|0=>0|53=>184|37=>152|5=>5|173=>335|212=>350|51=>182|20=>20|213=>351|46=>142|232=>355|233=>356|n=>n,fun|17=>5|18=>6|19=>7|n=>n⟩
theorem Tryz.agw:Go.Proofs.LaysM.n171 Tryz.prog Tryz.agx:={
 mixed:=by kernel_rfl
 f129:=Tryz.func158.trans (congrArg some (by kernel_rfl))
 f171:=Tryz.func235.trans (congrArg some (by kernel_rfl))
 f243:=Tryz.func279.trans (congrArg some (by kernel_rfl))
 f246:=Tryz.func322.trans (congrArg some (by kernel_rfl))
 f283:=Tryz.func345.trans (congrArg some (by kernel_rfl))
 f284:=Tryz.func346.trans (congrArg some (by kernel_rfl))
 f285:=Tryz.func347.trans (congrArg some (by kernel_rfl))
 f286:=Tryz.func348.trans (congrArg some (by kernel_rfl))
 f317:=Tryz.func359.trans (congrArg some (by kernel_rfl))
 f318:=Tryz.func360.trans (congrArg some (by kernel_rfl))
 f319:=Tryz.func361.trans (congrArg some (by kernel_rfl))
 f320:=Tryz.func362.trans (congrArg some (by kernel_rfl))
 f337:=Tryz.func365.trans (congrArg some (by kernel_rfl))
 f338:=Tryz.func366.trans (congrArg some (by kernel_rfl))
 t0:=Tryz.underlying0
 a0:=Tryz.isAgg0
 z0:=Tryz.sizeOf0
 v0:=Tryz.zeroValue0
 t2:=Tryz.underlying2
 a2:=Tryz.isAgg2
 z2:=Tryz.sizeOf2
 v2:=Tryz.zeroValue2
 t3:=Tryz.underlying3
 a3:=Tryz.isAgg3
 z3:=Tryz.sizeOf3
 v3:=Tryz.zeroValue3
 t4:=Tryz.underlying4
 a4:=Tryz.isAgg4
 z4:=Tryz.sizeOf4
 v4:=Tryz.zeroValue4
 t5:=Tryz.underlying5
 a5:=Tryz.isAgg5
 z5:=Tryz.sizeOf5
 v5:=Tryz.zeroValue5
 t9:=Tryz.underlying9
 a9:=Tryz.isAgg9
 z9:=Tryz.sizeOf9
 v9:=Tryz.zeroValue9
 t20:=Tryz.underlying20
 a20:=Tryz.isAgg20
 z20:=Tryz.sizeOf20
 v20:=Tryz.zeroValue20
 t37:=Tryz.underlying152
 a37:=Tryz.isAgg152
 z37:=Tryz.sizeOf152
 v37:=Tryz.zeroValue152
 t46:=Tryz.underlying142
 a46:=Tryz.isAgg142
 z46:=Tryz.sizeOf142
 v46:=Tryz.zeroValue142
 t51:=Tryz.underlying182
 a51:=Tryz.isAgg182
 z51:=Tryz.sizeOf182
 v51:=Tryz.zeroValue182
 t53:=Tryz.underlying184
 a53:=Tryz.isAgg184
 z53:=Tryz.sizeOf184
 v53:=Tryz.zeroValue184
 t171:=Tryz.underlying333
 a171:=Tryz.isAgg333
 z171:=Tryz.sizeOf333
 v171:=Tryz.zeroValue333
 t173:=Tryz.underlying335
 a173:=Tryz.isAgg335
 z173:=Tryz.sizeOf335
 v173:=Tryz.zeroValue335
 t212:=Tryz.underlying350
 a212:=Tryz.isAgg350
 z212:=Tryz.sizeOf350
 v212:=Tryz.zeroValue350
 t213:=Tryz.underlying351
 a213:=Tryz.isAgg351
 z213:=Tryz.sizeOf351
 t232:=Tryz.underlying355
 a232:=Tryz.isAgg355
 z232:=Tryz.sizeOf355
 v232:=Tryz.zeroValue355
 t233:=Tryz.underlying356
 a233:=Tryz.isAgg356
 z233:=Tryz.sizeOf356
 v233:=Tryz.zeroValue356
 g17:=by kernel_rfl
 g18:=by kernel_rfl
 g19:=by kernel_rfl
 i0:=by kernel_rfl
 i2:=by kernel_rfl
 i3:=by kernel_rfl
 i4:=by kernel_rfl
 i5:=by kernel_rfl
 i9:=by kernel_rfl
 i20:=by kernel_rfl
 i37:=by kernel_rfl
 i46:=by kernel_rfl
 i51:=by kernel_rfl
 i53:=by kernel_rfl
 i171:=by kernel_rfl
 i173:=by kernel_rfl
 i212:=by kernel_rfl
 i232:=by kernel_rfl
 i233:=by kernel_rfl
 m17:=by kernel_rfl
 m18:=by kernel_rfl
 m19:=by kernel_rfl}
open Go.RowKit Go.Sort Go.Lib in
theorem Tryz.strconv_Itoa(n:Int)(h0:-9223372036854775808≤n)(h1:n≤9223372036854775807)(w:World)(Bz:Lib.TabIs Tryz.prog w "internal/strconv.uint64pow10" .u64 Lib.pow10Tab):
  Calls Tryz.prog 235 #[.int .i64 n] w fun e w'=>e=.returned (.string ⟨(Lib.itoa n).toArray⟩)∧∃k os,w'=grow (w.drewN k) os:=Any.strconv_Itoa Tryz.agw n h0 h1 w Bz
def Tryz.agv:Go.Shelf.Ren:=⟨fun|172=>234|244=>277|245=>278|247=>317|279=>318|280=>319|281=>320|282=>321|287=>326|316=>343|171=>235|205=>344|321=>350|322=>351|243=>279|246=>322|283=>345|284=>346|285=>347|286=>348|129=>158|317=>359|318=>360|319=>361|320=>362|337=>365|338=>366|n=>n,fun|9=>9|3=>3|75=>239|76=>240|4=>4|5=>5|167=>304|37=>152|0=>0|85=>305|2=>2|168=>307|53=>184|175=>286|46=>142|210=>331|127=>316|145=>348|143=>346|21=>21|171=>333|173=>335|212=>350|51=>182|20=>20|213=>351|232=>355|233=>356|80=>295|n=>n,fun|15=>3|16=>4|17=>5|18=>6|19=>7|n=>n⟩
theorem Tryz.Ky:Go.Proofs.LaysC.n172 Tryz.prog Tryz.agv:={
 mixed:=by kernel_rfl
 f129:=Tryz.func158.trans (congrArg some (by kernel_rfl))
 f171:=Tryz.func235.trans (congrArg some (by kernel_rfl))
 f172:=Tryz.func234.trans (congrArg some (by kernel_rfl))
 f205:=Tryz.func344.trans (congrArg some (by kernel_rfl))
 f243:=Tryz.func279.trans (congrArg some (by kernel_rfl))
 f244:=Tryz.func277.trans (congrArg some (by kernel_rfl))
 f245:=Tryz.func278.trans (congrArg some (by kernel_rfl))
 f246:=Tryz.func322.trans (congrArg some (by kernel_rfl))
 f247:=Tryz.func317.trans (congrArg some (by kernel_rfl))
 f279:=Tryz.func318.trans (congrArg some (by kernel_rfl))
 f280:=Tryz.func319.trans (congrArg some (by kernel_rfl))
 f281:=Tryz.func320.trans (congrArg some (by kernel_rfl))
 f282:=Tryz.func321.trans (congrArg some (by kernel_rfl))
 f283:=Tryz.func345.trans (congrArg some (by kernel_rfl))
 f284:=Tryz.func346.trans (congrArg some (by kernel_rfl))
 f285:=Tryz.func347.trans (congrArg some (by kernel_rfl))
 f286:=Tryz.func348.trans (congrArg some (by kernel_rfl))
 f287:=Tryz.func326.trans (congrArg some (by kernel_rfl))
 f316:=Tryz.func343.trans (congrArg some (by kernel_rfl))
 f317:=Tryz.func359.trans (congrArg some (by kernel_rfl))
 f318:=Tryz.func360.trans (congrArg some (by kernel_rfl))
 f319:=Tryz.func361.trans (congrArg some (by kernel_rfl))
 f320:=Tryz.func362.trans (congrArg some (by kernel_rfl))
 f321:=Tryz.func350.trans (congrArg some (by kernel_rfl))
 f322:=Tryz.func351.trans (congrArg some (by kernel_rfl))
 f337:=Tryz.func365.trans (congrArg some (by kernel_rfl))
 f338:=Tryz.func366.trans (congrArg some (by kernel_rfl))
 t0:=Tryz.underlying0
 a0:=Tryz.isAgg0
 z0:=Tryz.sizeOf0
 v0:=Tryz.zeroValue0
 t2:=Tryz.underlying2
 a2:=Tryz.isAgg2
 z2:=Tryz.sizeOf2
 v2:=Tryz.zeroValue2
 t3:=Tryz.underlying3
 a3:=Tryz.isAgg3
 z3:=Tryz.sizeOf3
 v3:=Tryz.zeroValue3
 t4:=Tryz.underlying4
 a4:=Tryz.isAgg4
 z4:=Tryz.sizeOf4
 v4:=Tryz.zeroValue4
 t5:=Tryz.underlying5
 a5:=Tryz.isAgg5
 z5:=Tryz.sizeOf5
 v5:=Tryz.zeroValue5
 t9:=Tryz.underlying9
 a9:=Tryz.isAgg9
 z9:=Tryz.sizeOf9
 v9:=Tryz.zeroValue9
 t20:=Tryz.underlying20
 a20:=Tryz.isAgg20
 z20:=Tryz.sizeOf20
 v20:=Tryz.zeroValue20
 t21:=Tryz.underlying21
 a21:=Tryz.isAgg21
 z21:=Tryz.sizeOf21
 v21:=Tryz.zeroValue21
 t37:=Tryz.underlying152
 a37:=Tryz.isAgg152
 z37:=Tryz.sizeOf152
 v37:=Tryz.zeroValue152
 t46:=Tryz.underlying142
 a46:=Tryz.isAgg142
 z46:=Tryz.sizeOf142
 v46:=Tryz.zeroValue142
 t51:=Tryz.underlying182
 a51:=Tryz.isAgg182
 z51:=Tryz.sizeOf182
 v51:=Tryz.zeroValue182
 t53:=Tryz.underlying184
 a53:=Tryz.isAgg184
 z53:=Tryz.sizeOf184
 v53:=Tryz.zeroValue184
 t75:=Tryz.underlying239
 a75:=Tryz.isAgg239
 z75:=Tryz.sizeOf239
 v75:=Tryz.zeroValue239
 t76:=Tryz.underlying240
 a76:=Tryz.isAgg240
 z76:=Tryz.sizeOf240
 v76:=Tryz.zeroValue240
 t85:=Tryz.underlying305
 a85:=Tryz.isAgg305
 z85:=Tryz.sizeOf305
 v85:=Tryz.zeroValue305
 t127:=Tryz.underlying316
 a127:=Tryz.isAgg316
 z127:=Tryz.sizeOf316
 v127:=Tryz.zeroValue316
 t143:=Tryz.underlying346
 a143:=Tryz.isAgg346
 z143:=Tryz.sizeOf346
 v143:=Tryz.zeroValue346
 t145:=Tryz.underlying348
 a145:=Tryz.isAgg348
 z145:=Tryz.sizeOf348
 v145:=Tryz.zeroValue348
 t167:=Tryz.underlying304
 a167:=Tryz.isAgg304
 z167:=Tryz.sizeOf304
 v167:=Tryz.zeroValue304
 t168:=Tryz.underlying307
 a168:=Tryz.isAgg307
 z168:=Tryz.sizeOf307
 v168:=Tryz.zeroValue307
 t171:=Tryz.underlying333
 a171:=Tryz.isAgg333
 z171:=Tryz.sizeOf333
 v171:=Tryz.zeroValue333
 t173:=Tryz.underlying335
 a173:=Tryz.isAgg335
 z173:=Tryz.sizeOf335
 v173:=Tryz.zeroValue335
 t175:=Tryz.underlying286
 a175:=Tryz.isAgg286
 z175:=Tryz.sizeOf286
 v175:=Tryz.zeroValue286
 t210:=Tryz.underlying331
 a210:=Tryz.isAgg331
 z210:=Tryz.sizeOf331
 v210:=Tryz.zeroValue331
 t212:=Tryz.underlying350
 a212:=Tryz.isAgg350
 z212:=Tryz.sizeOf350
 v212:=Tryz.zeroValue350
 t213:=Tryz.underlying351
 a213:=Tryz.isAgg351
 z213:=Tryz.sizeOf351
 t232:=Tryz.underlying355
 a232:=Tryz.isAgg355
 z232:=Tryz.sizeOf355
 v232:=Tryz.zeroValue355
 t233:=Tryz.underlying356
 a233:=Tryz.isAgg356
 z233:=Tryz.sizeOf356
 v233:=Tryz.zeroValue356
 g15:=by kernel_rfl
 g16:=by kernel_rfl
 g17:=by kernel_rfl
 g18:=by kernel_rfl
 g19:=by kernel_rfl
 t80:=Tryz.underlying295
 a80:=Tryz.isAgg295
 z80:=Tryz.sizeOf295
 v80:=Tryz.zeroValue295
 i0:=by kernel_rfl
 i2:=by kernel_rfl
 i3:=by kernel_rfl
 i4:=by kernel_rfl
 i5:=by kernel_rfl
 i9:=by kernel_rfl
 i20:=by kernel_rfl
 i21:=by kernel_rfl
 i37:=by kernel_rfl
 i46:=by kernel_rfl
 i51:=by kernel_rfl
 i53:=by kernel_rfl
 i75:=by kernel_rfl
 i76:=by kernel_rfl
 i80:=by kernel_rfl
 i85:=by kernel_rfl
 i127:=by kernel_rfl
 i143:=by kernel_rfl
 i145:=by kernel_rfl
 i167:=by kernel_rfl
 i168:=by kernel_rfl
 i171:=by kernel_rfl
 i173:=by kernel_rfl
 i175:=by kernel_rfl
 i210:=by kernel_rfl
 i212:=by kernel_rfl
 i232:=by kernel_rfl
 i233:=by kernel_rfl
 m15:=by kernel_rfl
 m16:=by kernel_rfl
 m17:=by kernel_rfl
 m18:=by kernel_rfl
 m19:=by kernel_rfl
 c0:=by kernel_rfl
 c2:=by kernel_rfl
 c3:=by kernel_rfl
 c4:=by kernel_rfl
 c5:=by kernel_rfl
 c9:=by kernel_rfl
 c20:=by kernel_rfl
 c21:=by kernel_rfl
 c37:=by kernel_rfl
 c46:=by kernel_rfl
 c51:=by kernel_rfl
 c53:=by kernel_rfl
 c75:=by kernel_rfl
 c76:=by kernel_rfl
 c80:=by kernel_rfl
 c85:=by kernel_rfl
 c127:=by kernel_rfl
 c143:=by kernel_rfl
 c145:=by kernel_rfl
 c167:=by kernel_rfl
 c168:=by kernel_rfl
 c171:=by kernel_rfl
 c173:=by kernel_rfl
 c175:=by kernel_rfl
 c210:=by kernel_rfl
 c212:=by kernel_rfl
 c213:=by kernel_rfl
 c232:=by kernel_rfl
 c233:=by kernel_rfl}
open Go.RowKit in
theorem Tryz.strconv_Atoi_ok(s:ByteArray)(yM:s.size≤9223372036854775806)(v:Int)(h:Lib.atoiAll s.data.toList=.ok v)(w:World):
  Calls Tryz.prog 234 #[.string s] w fun e w'=>e=.returned (.tuple #[.int .i64 v,.nilIface])∧(w'=w∨∃t,w'=Lib.bytesWorld w 5 t):=Any.strconv_Atoi_ok Tryz.Ky s yM v h w
open Go.RowKit in
theorem Tryz.strconv_Atoi_range(s:ByteArray)(aew:s.size≤281474976710656)(h:Lib.atoiAll s.data.toList=.range)(ev:Value)(w:World)(hv:w.cell? ⟨4,0,none⟩=some ev)(yE:ev=.nilIface∨∃te pe,ev=.iface te pe):
  Calls Tryz.prog 234 #[.string s] w fun e w'=>∃N,e=.returned (.tuple #[.int .i64 (Lib.atoiSat s.data.toList),.iface 307 (.pointer (some ⟨N,0,none⟩))])∧w.heap.size≤N∧w'.heap[N]?=some (.cells #[.string ⟨#[65,116,111,105]⟩,.string s,ev] 331 (0,0))∧Below w.heap.size w w':=Any.strconv_Atoi_range Tryz.Ky s aew h ev w hv yE
def Tryz.agB:Go.Shelf.Ren:=⟨fun|14=>283|16=>326|17=>278|19=>350|20=>351|21=>318|22=>319|23=>320|24=>321|25=>343|27=>235|26=>344|28=>279|29=>322|30=>345|31=>346|32=>347|33=>348|35=>158|34=>359|36=>360|37=>361|38=>362|39=>365|40=>366|n=>n,fun|9=>9|3=>3|22=>184|24=>239|25=>286|4=>4|34=>304|5=>5|36=>142|37=>152|0=>0|39=>307|21=>21|44=>331|47=>316|50=>348|48=>346|2=>2|52=>333|55=>335|59=>350|60=>182|20=>20|61=>351|65=>355|66=>356|67=>295|n=>n,fun|0=>3|1=>4|2=>5|3=>6|4=>7|n=>n⟩
theorem Tryz.agA:Go.Proofs.LaysPu.n14 Tryz.prog Tryz.agB:={
 mixed:=by kernel_rfl
 f14:=Tryz.func283.trans (congrArg some (by kernel_rfl))
 f16:=Tryz.func326.trans (congrArg some (by kernel_rfl))
 f17:=Tryz.func278.trans (congrArg some (by kernel_rfl))
 f19:=Tryz.func350.trans (congrArg some (by kernel_rfl))
 f20:=Tryz.func351.trans (congrArg some (by kernel_rfl))
 f21:=Tryz.func318.trans (congrArg some (by kernel_rfl))
 f22:=Tryz.func319.trans (congrArg some (by kernel_rfl))
 f23:=Tryz.func320.trans (congrArg some (by kernel_rfl))
 f24:=Tryz.func321.trans (congrArg some (by kernel_rfl))
 f25:=Tryz.func343.trans (congrArg some (by kernel_rfl))
 f26:=Tryz.func344.trans (congrArg some (by kernel_rfl))
 f27:=Tryz.func235.trans (congrArg some (by kernel_rfl))
 f28:=Tryz.func279.trans (congrArg some (by kernel_rfl))
 f29:=Tryz.func322.trans (congrArg some (by kernel_rfl))
 f30:=Tryz.func345.trans (congrArg some (by kernel_rfl))
 f31:=Tryz.func346.trans (congrArg some (by kernel_rfl))
 f32:=Tryz.func347.trans (congrArg some (by kernel_rfl))
 f33:=Tryz.func348.trans (congrArg some (by kernel_rfl))
 f34:=Tryz.func359.trans (congrArg some (by kernel_rfl))
 f35:=Tryz.func158.trans (congrArg some (by kernel_rfl))
 f36:=Tryz.func360.trans (congrArg some (by kernel_rfl))
 f37:=Tryz.func361.trans (congrArg some (by kernel_rfl))
 f38:=Tryz.func362.trans (congrArg some (by kernel_rfl))
 f39:=Tryz.func365.trans (congrArg some (by kernel_rfl))
 f40:=Tryz.func366.trans (congrArg some (by kernel_rfl))
 t0:=Tryz.underlying0
 a0:=Tryz.isAgg0
 z0:=Tryz.sizeOf0
 v0:=Tryz.zeroValue0
 i0:=by kernel_rfl
 t2:=Tryz.underlying2
 a2:=Tryz.isAgg2
 z2:=Tryz.sizeOf2
 v2:=Tryz.zeroValue2
 i2:=by kernel_rfl
 t3:=Tryz.underlying3
 a3:=Tryz.isAgg3
 z3:=Tryz.sizeOf3
 v3:=Tryz.zeroValue3
 i3:=by kernel_rfl
 t4:=Tryz.underlying4
 a4:=Tryz.isAgg4
 z4:=Tryz.sizeOf4
 v4:=Tryz.zeroValue4
 i4:=by kernel_rfl
 t5:=Tryz.underlying5
 a5:=Tryz.isAgg5
 z5:=Tryz.sizeOf5
 v5:=Tryz.zeroValue5
 i5:=by kernel_rfl
 t9:=Tryz.underlying9
 a9:=Tryz.isAgg9
 z9:=Tryz.sizeOf9
 v9:=Tryz.zeroValue9
 i9:=by kernel_rfl
 t20:=Tryz.underlying20
 a20:=Tryz.isAgg20
 z20:=Tryz.sizeOf20
 v20:=Tryz.zeroValue20
 i20:=by kernel_rfl
 t21:=Tryz.underlying21
 a21:=Tryz.isAgg21
 z21:=Tryz.sizeOf21
 v21:=Tryz.zeroValue21
 i21:=by kernel_rfl
 t22:=Tryz.underlying184
 a22:=Tryz.isAgg184
 z22:=Tryz.sizeOf184
 v22:=Tryz.zeroValue184
 i22:=by kernel_rfl
 t24:=Tryz.underlying239
 a24:=Tryz.isAgg239
 z24:=Tryz.sizeOf239
 v24:=Tryz.zeroValue239
 i24:=by kernel_rfl
 t25:=Tryz.underlying286
 a25:=Tryz.isAgg286
 z25:=Tryz.sizeOf286
 v25:=Tryz.zeroValue286
 i25:=by kernel_rfl
 t34:=Tryz.underlying304
 a34:=Tryz.isAgg304
 z34:=Tryz.sizeOf304
 v34:=Tryz.zeroValue304
 i34:=by kernel_rfl
 c34:=by kernel_rfl
 t36:=Tryz.underlying142
 a36:=Tryz.isAgg142
 z36:=Tryz.sizeOf142
 v36:=Tryz.zeroValue142
 i36:=by kernel_rfl
 t37:=Tryz.underlying152
 a37:=Tryz.isAgg152
 z37:=Tryz.sizeOf152
 v37:=Tryz.zeroValue152
 i37:=by kernel_rfl
 t39:=Tryz.underlying307
 a39:=Tryz.isAgg307
 z39:=Tryz.sizeOf307
 v39:=Tryz.zeroValue307
 i39:=by kernel_rfl
 t44:=Tryz.underlying331
 a44:=Tryz.isAgg331
 z44:=Tryz.sizeOf331
 v44:=Tryz.zeroValue331
 i44:=by kernel_rfl
 t47:=Tryz.underlying316
 a47:=Tryz.isAgg316
 z47:=Tryz.sizeOf316
 v47:=Tryz.zeroValue316
 i47:=by kernel_rfl
 t48:=Tryz.underlying346
 a48:=Tryz.isAgg346
 z48:=Tryz.sizeOf346
 v48:=Tryz.zeroValue346
 i48:=by kernel_rfl
 t50:=Tryz.underlying348
 a50:=Tryz.isAgg348
 z50:=Tryz.sizeOf348
 v50:=Tryz.zeroValue348
 i50:=by kernel_rfl
 t52:=Tryz.underlying333
 a52:=Tryz.isAgg333
 z52:=Tryz.sizeOf333
 v52:=Tryz.zeroValue333
 i52:=by kernel_rfl
 t55:=Tryz.underlying335
 a55:=Tryz.isAgg335
 z55:=Tryz.sizeOf335
 v55:=Tryz.zeroValue335
 i55:=by kernel_rfl
 t59:=Tryz.underlying350
 a59:=Tryz.isAgg350
 z59:=Tryz.sizeOf350
 v59:=Tryz.zeroValue350
 i59:=by kernel_rfl
 t60:=Tryz.underlying182
 a60:=Tryz.isAgg182
 z60:=Tryz.sizeOf182
 v60:=Tryz.zeroValue182
 i60:=by kernel_rfl
 t61:=Tryz.underlying351
 a61:=Tryz.isAgg351
 z61:=Tryz.sizeOf351
 t65:=Tryz.underlying355
 a65:=Tryz.isAgg355
 z65:=Tryz.sizeOf355
 v65:=Tryz.zeroValue355
 i65:=by kernel_rfl
 t66:=Tryz.underlying356
 a66:=Tryz.isAgg356
 z66:=Tryz.sizeOf356
 v66:=Tryz.zeroValue356
 i66:=by kernel_rfl
 t67:=Tryz.underlying295
 a67:=Tryz.isAgg295
 z67:=Tryz.sizeOf295
 v67:=Tryz.zeroValue295
 i67:=by kernel_rfl
 g0:=by kernel_rfl
 m0:=by kernel_rfl
 g1:=by kernel_rfl
 m1:=by kernel_rfl
 g2:=by kernel_rfl
 m2:=by kernel_rfl
 g3:=by kernel_rfl
 m3:=by kernel_rfl
 g4:=by kernel_rfl
 m4:=by kernel_rfl}
open Go.RowKit in
theorem Tryz.strconv_ParseUint_10_at64_ok(s:ByteArray)(yM:s.size≤9223372036854775806)(u:Nat)(h:Lib.parseUintB 64 s.data.toList=.ok u)(w:World):
  Calls Tryz.prog 283 #[.string s,.int .i64 10,.int .i64 64] w fun e w'=>e=.returned (.tuple #[.int .u64 u,.nilIface])∧(w'=w∨w'=Lib.bytesWorld w 5 s):=Any.strconv_ParseUint_10_at64_ok Tryz.agA s yM u h w
def Tryz.agq:Go.Shelf.Ren:=⟨fun|219=>265|217=>300|225=>301|224=>302|267=>303|266=>336|314=>337|n=>n,fun|9=>9|3=>3|4=>4|5=>5|46=>142|146=>322|51=>182|n=>n,fun|1=>0|n=>n⟩
theorem Tryz.agp:Go.Proofs.Lays.n219 Tryz.prog Tryz.agq:={
 mixed:=by kernel_rfl
 f217:=Tryz.func300.trans (congrArg some (by kernel_rfl))
 f219:=Tryz.func265.trans (congrArg some (by kernel_rfl))
 f224:=Tryz.func302.trans (congrArg some (by kernel_rfl))
 f225:=Tryz.func301.trans (congrArg some (by kernel_rfl))
 f266:=Tryz.func336.trans (congrArg some (by kernel_rfl))
 f267:=Tryz.func303.trans (congrArg some (by kernel_rfl))
 f314:=Tryz.func337.trans (congrArg some (by kernel_rfl))
 t3:=Tryz.underlying3
 a3:=Tryz.isAgg3
 z3:=Tryz.sizeOf3
 v3:=Tryz.zeroValue3
 t4:=Tryz.underlying4
 a4:=Tryz.isAgg4
 z4:=Tryz.sizeOf4
 v4:=Tryz.zeroValue4
 t5:=Tryz.underlying5
 a5:=Tryz.isAgg5
 z5:=Tryz.sizeOf5
 v5:=Tryz.zeroValue5
 t9:=Tryz.underlying9
 a9:=Tryz.isAgg9
 z9:=Tryz.sizeOf9
 v9:=Tryz.zeroValue9
 t46:=Tryz.underlying142
 a46:=Tryz.isAgg142
 z46:=Tryz.sizeOf142
 v46:=Tryz.zeroValue142
 t51:=Tryz.underlying182
 a51:=Tryz.isAgg182
 z51:=Tryz.sizeOf182
 v51:=Tryz.zeroValue182
 t146:=Tryz.underlying322
 a146:=Tryz.isAgg322
 z146:=Tryz.sizeOf322
 v146:=Tryz.zeroValue322
 g1:=by kernel_rfl}
open Go.RowKit Go.Lib in
theorem Tryz.stringslite_Index_one(s:ByteArray)(c:UInt8)(w:World):
  Calls Tryz.prog 265 #[.string s,.string ⟨#[c]⟩] w fun e w'=>e=.returned (.int .i64 (Lib.indexByte s.data.toList c))∧w'=w:=Any.stringslite_Index_one Tryz.agp s c w
def Tryz.Su:Go.Shelf.Ren:=⟨fun|105=>288|212=>329|99=>330|165=>331|166=>286|170=>332|169=>289|263=>353|264=>354|206=>314|240=>327|241=>355|276=>352|277=>363|n=>n,fun|9=>9|3=>3|4=>4|20=>20|0=>0|46=>142|109=>312|5=>5|72=>291|76=>240|51=>182|146=>322|53=>184|148=>341|70=>289|37=>152|75=>239|127=>316|164=>338|80=>295|n=>n,fun|n=>n⟩
theorem Tryz.agk:Go.Proofs.Lays.n105 Tryz.prog Tryz.Su:={
 mixed:=by kernel_rfl
 f99:=Tryz.func330.trans (congrArg some (by kernel_rfl))
 f105:=Tryz.func288.trans (congrArg some (by kernel_rfl))
 f165:=Tryz.func331.trans (congrArg some (by kernel_rfl))
 f166:=Tryz.func286.trans (congrArg some (by kernel_rfl))
 f169:=Tryz.func289.trans (congrArg some (by kernel_rfl))
 f170:=Tryz.func332.trans (congrArg some (by kernel_rfl))
 f206:=Tryz.func314.trans (congrArg some (by kernel_rfl))
 f212:=Tryz.func329.trans (congrArg some (by kernel_rfl))
 f240:=Tryz.func327.trans (congrArg some (by kernel_rfl))
 f241:=Tryz.func355.trans (congrArg some (by kernel_rfl))
 f263:=Tryz.func353.trans (congrArg some (by kernel_rfl))
 f264:=Tryz.func354.trans (congrArg some (by kernel_rfl))
 f276:=Tryz.func352.trans (congrArg some (by kernel_rfl))
 f277:=Tryz.func363.trans (congrArg some (by kernel_rfl))
 t0:=Tryz.underlying0
 a0:=Tryz.isAgg0
 z0:=Tryz.sizeOf0
 v0:=Tryz.zeroValue0
 t3:=Tryz.underlying3
 a3:=Tryz.isAgg3
 z3:=Tryz.sizeOf3
 v3:=Tryz.zeroValue3
 t4:=Tryz.underlying4
 a4:=Tryz.isAgg4
 z4:=Tryz.sizeOf4
 v4:=Tryz.zeroValue4
 t5:=Tryz.underlying5
 a5:=Tryz.isAgg5
 z5:=Tryz.sizeOf5
 v5:=Tryz.zeroValue5
 t9:=Tryz.underlying9
 a9:=Tryz.isAgg9
 z9:=Tryz.sizeOf9
 v9:=Tryz.zeroValue9
 t20:=Tryz.underlying20
 a20:=Tryz.isAgg20
 z20:=Tryz.sizeOf20
 v20:=Tryz.zeroValue20
 t37:=Tryz.underlying152
 a37:=Tryz.isAgg152
 z37:=Tryz.sizeOf152
 v37:=Tryz.zeroValue152
 t46:=Tryz.underlying142
 a46:=Tryz.isAgg142
 z46:=Tryz.sizeOf142
 v46:=Tryz.zeroValue142
 t51:=Tryz.underlying182
 a51:=Tryz.isAgg182
 z51:=Tryz.sizeOf182
 v51:=Tryz.zeroValue182
 t53:=Tryz.underlying184
 a53:=Tryz.isAgg184
 z53:=Tryz.sizeOf184
 v53:=Tryz.zeroValue184
 t70:=Tryz.underlying289
 a70:=Tryz.isAgg289
 z70:=Tryz.sizeOf289
 v70:=Tryz.zeroValue289
 t72:=Tryz.underlying291
 a72:=Tryz.isAgg291
 z72:=Tryz.sizeOf291
 v72:=Tryz.zeroValue291
 t75:=Tryz.underlying239
 a75:=Tryz.isAgg239
 z75:=Tryz.sizeOf239
 v75:=Tryz.zeroValue239
 t76:=Tryz.underlying240
 a76:=Tryz.isAgg240
 z76:=Tryz.sizeOf240
 v76:=Tryz.zeroValue240
 t109:=Tryz.underlying312
 a109:=Tryz.isAgg312
 z109:=Tryz.sizeOf312
 v109:=Tryz.zeroValue312
 t127:=Tryz.underlying316
 a127:=Tryz.isAgg316
 z127:=Tryz.sizeOf316
 v127:=Tryz.zeroValue316
 t146:=Tryz.underlying322
 a146:=Tryz.isAgg322
 z146:=Tryz.sizeOf322
 v146:=Tryz.zeroValue322
 t148:=Tryz.underlying341
 a148:=Tryz.isAgg341
 z148:=Tryz.sizeOf341
 v148:=Tryz.zeroValue341
 t164:=Tryz.underlying338
 a164:=Tryz.isAgg338
 z164:=Tryz.sizeOf338
 v164:=Tryz.zeroValue338}
theorem Tryz.XA:Builder.Extra Tryz.prog Tryz.Su:={
 sizeBuilder:=by kernel_rfl
 liesBuilder:=by kernel_rfl
 t5:=Tryz.underlying5
 a5:=Tryz.isAgg5
 z5:=Tryz.sizeOf5
 v5:=Tryz.zeroValue5
 infoByte:=by kernel_rfl
 cellsByte:=by kernel_rfl
 sizeByte:=by kernel_rfl
 neB5:=by decide}
open Go.RowKit Go.Lib in
theorem Tryz.strings_Repeat(s:ByteArray)(c:Nat)(w:World)(hc:c≤9223372036854775807)(hlen:s.size*c≤140737488355328):
  Calls Tryz.prog 288 #[.string s,.int .i64 c] w fun e w'=>e=.returned (.string ⟨(Lib.repeatL s.data.toList c).toArray⟩)∧Below w.heap.size w w':=Any.strings_Repeat Tryz.agk Tryz.XA s c w hc hlen
def Tryz.ago:Go.Shelf.Ren:=⟨fun|194=>64|n=>n,fun|31=>48|9=>9|3=>3|4=>4|0=>0|n=>n,fun|n=>n⟩
theorem Tryz.Sw:Go.Proofs.Lays.n194 Tryz.prog Tryz.ago:={
 mixed:=by kernel_rfl
 f194:=Tryz.func64.trans (congrArg some (by kernel_rfl))
 t0:=Tryz.underlying0
 a0:=Tryz.isAgg0
 z0:=Tryz.sizeOf0
 v0:=Tryz.zeroValue0
 t3:=Tryz.underlying3
 a3:=Tryz.isAgg3
 z3:=Tryz.sizeOf3
 v3:=Tryz.zeroValue3
 t4:=Tryz.underlying4
 a4:=Tryz.isAgg4
 z4:=Tryz.sizeOf4
 v4:=Tryz.zeroValue4
 t9:=Tryz.underlying9
 a9:=Tryz.isAgg9
 z9:=Tryz.sizeOf9
 v9:=Tryz.zeroValue9
 t31:=Tryz.underlying48
 a31:=Tryz.isAgg48
 z31:=Tryz.sizeOf48
 v31:=Tryz.zeroValue48}
open Go.RowKit Go.Lib Go.Sort in
theorem Tryz.slices_Compact_string(b_ off cap:Nat)(zs:List (List UInt8))(w:World)(hH:Holds encStr w b_ off zs.toArray)(aY:zs.length≤9223372036854775807)(cJ:zs.length≤cap):
  Calls Tryz.prog 64 #[.slice (some ⟨b_,off,none⟩) zs.length cap] w fun e w'=>e=.returned (.slice (some ⟨b_,off,none⟩) (Lib.compact zs).length cap)∧∃q,w'=putRow encStr (Sort.ahead w q) b_ off (Lib.compact zs++List.replicate (zs.length-(Lib.compact zs).length) []).toArray:=Any.slices_Compact_string Tryz.Sw b_ off cap zs w hH aY cJ
open Go.RowKit Go.Lib Go.Sort in
theorem Tryz.slices_Compact_string_empty(a:Option Addr)(cap:Nat)(w:World):
  Calls Tryz.prog 64 #[.slice a 0 cap] w fun e w'=>e=.returned (.slice a 0 cap)∧w'=w:=Any.slices_Compact_string_empty Tryz.Sw a cap w
def Tryz.Sy:Go.Shelf.Ren:=⟨fun|6=>63|8=>107|9=>106|19=>157|20=>158|21=>148|22=>149|23=>150|24=>151|25=>152|26=>153|27=>154|28=>155|29=>156|36=>202|31=>203|32=>204|37=>205|38=>206|39=>188|41=>261|n=>n,fun|27=>48|29=>9|3=>3|32=>142|26=>48|0=>0|44=>182|46=>184|4=>4|36=>175|35=>174|41=>69|5=>5|9=>9|53=>218|57=>222|63=>266|64=>267|n=>n,fun|n=>n⟩
theorem Tryz.Sx:Go.Proofs.SlLaysM.n6 Tryz.prog Tryz.Sy:={
 mixed:=by kernel_rfl
 f6:=⟨Tryz.f63.name,by decide,Tryz.func63.trans (congrArg some (by kernel_rfl))⟩
 f8:=Tryz.func107.trans (congrArg some (by kernel_rfl))
 f9:=⟨Tryz.f106.name,by decide,Tryz.func106.trans (congrArg some (by kernel_rfl))⟩
 f19:=Tryz.func157.trans (congrArg some (by kernel_rfl))
 f20:=Tryz.func158.trans (congrArg some (by kernel_rfl))
 f21:=⟨Tryz.f148.name,by decide,Tryz.func148.trans (congrArg some (by kernel_rfl))⟩
 f22:=⟨Tryz.f149.name,by decide,Tryz.func149.trans (congrArg some (by kernel_rfl))⟩
 f23:=⟨Tryz.f150.name,by decide,Tryz.func150.trans (congrArg some (by kernel_rfl))⟩
 f24:=⟨Tryz.f151.name,by decide,Tryz.func151.trans (congrArg some (by kernel_rfl))⟩
 f25:=⟨Tryz.f152.name,by decide,Tryz.func152.trans (congrArg some (by kernel_rfl))⟩
 f26:=⟨Tryz.f153.name,by decide,Tryz.func153.trans (congrArg some (by kernel_rfl))⟩
 f27:=⟨Tryz.f154.name,by decide,Tryz.func154.trans (congrArg some (by kernel_rfl))⟩
 f28:=⟨Tryz.f155.name,by decide,Tryz.func155.trans (congrArg some (by kernel_rfl))⟩
 f29:=⟨Tryz.f156.name,by decide,Tryz.func156.trans (congrArg some (by kernel_rfl))⟩
 f31:=Tryz.func203.trans (congrArg some (by kernel_rfl))
 f32:=Tryz.func204.trans (congrArg some (by kernel_rfl))
 f36:=⟨Tryz.f202.name,by decide,Tryz.func202.trans (congrArg some (by kernel_rfl))⟩
 f37:=⟨Tryz.f205.name,by decide,Tryz.func205.trans (congrArg some (by kernel_rfl))⟩
 f38:=⟨Tryz.f206.name,by decide,Tryz.func206.trans (congrArg some (by kernel_rfl))⟩
 f39:=⟨Tryz.f188.name,by decide,Tryz.func188.trans (congrArg some (by kernel_rfl))⟩
 f41:=⟨Tryz.f261.name,by decide,Tryz.func261.trans (congrArg some (by kernel_rfl))⟩
 t0:=Tryz.underlying0
 a0:=Tryz.isAgg0
 z0:=Tryz.sizeOf0
 v0:=Tryz.zeroValue0
 t3:=Tryz.underlying3
 a3:=Tryz.isAgg3
 z3:=Tryz.sizeOf3
 v3:=Tryz.zeroValue3
 t4:=Tryz.underlying4
 a4:=Tryz.isAgg4
 z4:=Tryz.sizeOf4
 v4:=Tryz.zeroValue4
 t5:=Tryz.underlying5
 a5:=Tryz.isAgg5
 z5:=Tryz.sizeOf5
 v5:=Tryz.zeroValue5
 t9:=Tryz.underlying9
 a9:=Tryz.isAgg9
 z9:=Tryz.sizeOf9
 v9:=Tryz.zeroValue9
 t26:=Tryz.underlying48
 a26:=Tryz.isAgg48
 z26:=Tryz.sizeOf48
 v26:=Tryz.zeroValue48
 t27:=Tryz.underlying48
 a27:=Tryz.isAgg48
 z27:=Tryz.sizeOf48
 v27:=Tryz.zeroValue48
 t29:=Tryz.underlying9
 a29:=Tryz.isAgg9
 z29:=Tryz.sizeOf9
 v29:=Tryz.zeroValue9
 t32:=Tryz.underlying142
 a32:=Tryz.isAgg142
 z32:=Tryz.sizeOf142
 v32:=Tryz.zeroValue142
 t35:=Tryz.underlying174
 a35:=Tryz.isAgg174
 z35:=Tryz.sizeOf174
 v35:=Tryz.zeroValue174
 t36:=Tryz.underlying175
 a36:=Tryz.isAgg175
 z36:=Tryz.sizeOf175
 v36:=Tryz.zeroValue175
 t41:=Tryz.underlying69
 a41:=Tryz.isAgg69
 z41:=Tryz.sizeOf69
 v41:=Tryz.zeroValue69
 t44:=Tryz.underlying182
 a44:=Tryz.isAgg182
 z44:=Tryz.sizeOf182
 v44:=Tryz.zeroValue182
 t46:=Tryz.underlying184
 a46:=Tryz.isAgg184
 z46:=Tryz.sizeOf184
 v46:=Tryz.zeroValue184
 t53:=Tryz.underlying218
 a53:=Tryz.isAgg218
 z53:=Tryz.sizeOf218
 v53:=Tryz.zeroValue218
 t57:=Tryz.underlying222
 a57:=Tryz.isAgg222
 z57:=Tryz.sizeOf222
 v57:=Tryz.zeroValue222
 t63:=Tryz.underlying266
 a63:=Tryz.isAgg266
 z63:=Tryz.sizeOf266
 v63:=Tryz.zeroValue266
 t64:=Tryz.underlying267
 a64:=Tryz.isAgg267
 z64:=Tryz.sizeOf267
 v64:=Tryz.zeroValue267}
open Go.RowKit Go.Sort in
theorem Tryz.slices_Sort_string_none(p:Option Addr)(cap:Nat)(w:World):
  Calls Tryz.prog 63 #[.slice p 0 cap] w fun e w'=>e=.returned (.tuple #[])∧w'=w:=AnyM.slices_Sort_string_none Tryz.Sx p cap w
def Tryz.agF:Go.Shelf.Ren:=⟨fun|6=>130|15=>107|14=>187|28=>157|29=>158|20=>241|21=>242|22=>243|23=>244|24=>245|25=>246|26=>247|27=>248|46=>290|47=>203|48=>204|49=>291|50=>292|57=>333|n=>n,fun|22=>43|24=>48|25=>165|3=>3|39=>142|0=>0|53=>182|55=>184|4=>4|46=>175|45=>174|50=>69|5=>5|9=>9|66=>218|70=>222|76=>266|77=>267|n=>n,fun|n=>n⟩
theorem Tryz.agE:Go.Proofs.SlLaysF.n6 Tryz.prog Tryz.agF:={
 mixed:=by kernel_rfl
 f6:=⟨Tryz.f130.name,by decide,Tryz.func130.trans (congrArg some (by kernel_rfl))⟩
 f14:=⟨Tryz.f187.name,by decide,Tryz.func187.trans (congrArg some (by kernel_rfl))⟩
 f15:=Tryz.func107.trans (congrArg some (by kernel_rfl))
 f20:=⟨Tryz.f241.name,by decide,Tryz.func241.trans (congrArg some (by kernel_rfl))⟩
 f21:=⟨Tryz.f242.name,by decide,Tryz.func242.trans (congrArg some (by kernel_rfl))⟩
 f22:=⟨Tryz.f243.name,by decide,Tryz.func243.trans (congrArg some (by kernel_rfl))⟩
 f23:=⟨Tryz.f244.name,by decide,Tryz.func244.trans (congrArg some (by kernel_rfl))⟩
 f24:=⟨Tryz.f245.name,by decide,Tryz.func245.trans (congrArg some (by kernel_rfl))⟩
 f25:=⟨Tryz.f246.name,by decide,Tryz.func246.trans (congrArg some (by kernel_rfl))⟩
 f26:=⟨Tryz.f247.name,by decide,Tryz.func247.trans (congrArg some (by kernel_rfl))⟩
 f27:=⟨Tryz.f248.name,by decide,Tryz.func248.trans (congrArg some (by kernel_rfl))⟩
 f28:=Tryz.func157.trans (congrArg some (by kernel_rfl))
 f29:=Tryz.func158.trans (congrArg some (by kernel_rfl))
 f46:=⟨Tryz.f290.name,by decide,Tryz.func290.trans (congrArg some (by kernel_rfl))⟩
 f47:=Tryz.func203.trans (congrArg some (by kernel_rfl))
 f48:=Tryz.func204.trans (congrArg some (by kernel_rfl))
 f49:=⟨Tryz.f291.name,by decide,Tryz.func291.trans (congrArg some (by kernel_rfl))⟩
 f50:=⟨Tryz.f292.name,by decide,Tryz.func292.trans (congrArg some (by kernel_rfl))⟩
 f57:=⟨Tryz.f333.name,by decide,Tryz.func333.trans (congrArg some (by kernel_rfl))⟩
 t0:=Tryz.underlying0
 a0:=Tryz.isAgg0
 z0:=Tryz.sizeOf0
 v0:=Tryz.zeroValue0
 t3:=Tryz.underlying3
 a3:=Tryz.isAgg3
 z3:=Tryz.sizeOf3
 v3:=Tryz.zeroValue3
 t4:=Tryz.underlying4
 a4:=Tryz.isAgg4
 z4:=Tryz.sizeOf4
 v4:=Tryz.zeroValue4
 t5:=Tryz.underlying5
 a5:=Tryz.isAgg5
 z5:=Tryz.sizeOf5
 v5:=Tryz.zeroValue5
 t9:=Tryz.underlying9
 a9:=Tryz.isAgg9
 z9:=Tryz.sizeOf9
 v9:=Tryz.zeroValue9
 t22:=Tryz.underlying43
 a22:=Tryz.isAgg43
 z22:=Tryz.sizeOf43
 v22:=Tryz.zeroValue43
 a24:=Tryz.isAgg48
 z24:=Tryz.sizeOf48
 t25:=Tryz.underlying165
 a25:=Tryz.isAgg165
 z25:=Tryz.sizeOf165
 v25:=Tryz.zeroValue165
 t39:=Tryz.underlying142
 a39:=Tryz.isAgg142
 z39:=Tryz.sizeOf142
 v39:=Tryz.zeroValue142
 t45:=Tryz.underlying174
 a45:=Tryz.isAgg174
 z45:=Tryz.sizeOf174
 v45:=Tryz.zeroValue174
 t46:=Tryz.underlying175
 a46:=Tryz.isAgg175
 z46:=Tryz.sizeOf175
 v46:=Tryz.zeroValue175
 t50:=Tryz.underlying69
 a50:=Tryz.isAgg69
 z50:=Tryz.sizeOf69
 v50:=Tryz.zeroValue69
 t53:=Tryz.underlying182
 a53:=Tryz.isAgg182
 z53:=Tryz.sizeOf182
 v53:=Tryz.zeroValue182
 t55:=Tryz.underlying184
 a55:=Tryz.isAgg184
 z55:=Tryz.sizeOf184
 v55:=Tryz.zeroValue184
 t66:=Tryz.underlying218
 a66:=Tryz.isAgg218
 z66:=Tryz.sizeOf218
 v66:=Tryz.zeroValue218
 t70:=Tryz.underlying222
 a70:=Tryz.isAgg222
 z70:=Tryz.sizeOf222
 v70:=Tryz.zeroValue222
 t76:=Tryz.underlying266
 a76:=Tryz.isAgg266
 z76:=Tryz.sizeOf266
 v76:=Tryz.zeroValue266
 t77:=Tryz.underlying267
 a77:=Tryz.isAgg267
 z77:=Tryz.sizeOf267
 v77:=Tryz.zeroValue267}
def Tryz.agD:Go.Shelf.Ren:=⟨fun|6=>130|15=>107|14=>187|28=>157|29=>158|20=>241|21=>242|22=>243|23=>244|24=>245|25=>246|26=>247|27=>248|46=>290|47=>203|48=>204|49=>291|50=>292|57=>333|n=>n,fun|22=>43|24=>48|25=>165|3=>3|39=>142|0=>0|53=>182|55=>184|4=>4|46=>175|45=>174|50=>69|5=>5|9=>9|66=>218|70=>222|76=>266|77=>267|n=>n,fun|n=>n⟩
theorem Tryz.agC:Go.Proofs.SlLaysF0.n6 Tryz.prog Tryz.agD:={
 mixed:=by kernel_rfl
 f6:=⟨Tryz.f130.name,by decide,Tryz.func130.trans (congrArg some (by kernel_rfl))⟩
 f14:=⟨Tryz.f187.name,by decide,Tryz.func187.trans (congrArg some (by kernel_rfl))⟩
 f15:=Tryz.func107.trans (congrArg some (by kernel_rfl))
 f20:=⟨Tryz.f241.name,by decide,Tryz.func241.trans (congrArg some (by kernel_rfl))⟩
 f21:=⟨Tryz.f242.name,by decide,Tryz.func242.trans (congrArg some (by kernel_rfl))⟩
 f22:=⟨Tryz.f243.name,by decide,Tryz.func243.trans (congrArg some (by kernel_rfl))⟩
 f23:=⟨Tryz.f244.name,by decide,Tryz.func244.trans (congrArg some (by kernel_rfl))⟩
 f24:=⟨Tryz.f245.name,by decide,Tryz.func245.trans (congrArg some (by kernel_rfl))⟩
 f25:=⟨Tryz.f246.name,by decide,Tryz.func246.trans (congrArg some (by kernel_rfl))⟩
 f26:=⟨Tryz.f247.name,by decide,Tryz.func247.trans (congrArg some (by kernel_rfl))⟩
 f27:=⟨Tryz.f248.name,by decide,Tryz.func248.trans (congrArg some (by kernel_rfl))⟩
 f28:=Tryz.func157.trans (congrArg some (by kernel_rfl))
 f29:=Tryz.func158.trans (congrArg some (by kernel_rfl))
 f46:=⟨Tryz.f290.name,by decide,Tryz.func290.trans (congrArg some (by kernel_rfl))⟩
 f47:=Tryz.func203.trans (congrArg some (by kernel_rfl))
 f48:=Tryz.func204.trans (congrArg some (by kernel_rfl))
 f49:=⟨Tryz.f291.name,by decide,Tryz.func291.trans (congrArg some (by kernel_rfl))⟩
 f50:=⟨Tryz.f292.name,by decide,Tryz.func292.trans (congrArg some (by kernel_rfl))⟩
 f57:=⟨Tryz.f333.name,by decide,Tryz.func333.trans (congrArg some (by kernel_rfl))⟩
 t0:=Tryz.underlying0
 a0:=Tryz.isAgg0
 z0:=Tryz.sizeOf0
 v0:=Tryz.zeroValue0
 t3:=Tryz.underlying3
 a3:=Tryz.isAgg3
 z3:=Tryz.sizeOf3
 v3:=Tryz.zeroValue3
 t4:=Tryz.underlying4
 a4:=Tryz.isAgg4
 z4:=Tryz.sizeOf4
 v4:=Tryz.zeroValue4
 t5:=Tryz.underlying5
 a5:=Tryz.isAgg5
 z5:=Tryz.sizeOf5
 v5:=Tryz.zeroValue5
 t9:=Tryz.underlying9
 a9:=Tryz.isAgg9
 z9:=Tryz.sizeOf9
 v9:=Tryz.zeroValue9
 t22:=Tryz.underlying43
 a22:=Tryz.isAgg43
 z22:=Tryz.sizeOf43
 v22:=Tryz.zeroValue43
 t25:=Tryz.underlying165
 a25:=Tryz.isAgg165
 z25:=Tryz.sizeOf165
 v25:=Tryz.zeroValue165
 t39:=Tryz.underlying142
 a39:=Tryz.isAgg142
 z39:=Tryz.sizeOf142
 v39:=Tryz.zeroValue142
 t45:=Tryz.underlying174
 a45:=Tryz.isAgg174
 z45:=Tryz.sizeOf174
 v45:=Tryz.zeroValue174
 t46:=Tryz.underlying175
 a46:=Tryz.isAgg175
 z46:=Tryz.sizeOf175
 v46:=Tryz.zeroValue175
 t50:=Tryz.underlying69
 a50:=Tryz.isAgg69
 z50:=Tryz.sizeOf69
 v50:=Tryz.zeroValue69
 t53:=Tryz.underlying182
 a53:=Tryz.isAgg182
 z53:=Tryz.sizeOf182
 v53:=Tryz.zeroValue182
 t55:=Tryz.underlying184
 a55:=Tryz.isAgg184
 z55:=Tryz.sizeOf184
 v55:=Tryz.zeroValue184
 t66:=Tryz.underlying218
 a66:=Tryz.isAgg218
 z66:=Tryz.sizeOf218
 v66:=Tryz.zeroValue218
 t70:=Tryz.underlying222
 a70:=Tryz.isAgg222
 z70:=Tryz.sizeOf222
 v70:=Tryz.zeroValue222
 t76:=Tryz.underlying266
 a76:=Tryz.isAgg266
 z76:=Tryz.sizeOf266
 v76:=Tryz.zeroValue266
 t77:=Tryz.underlying267
 a77:=Tryz.isAgg267
 z77:=Tryz.sizeOf267
 v77:=Tryz.zeroValue267}
open Go.RowKit Go.Lib Go.Sort in
theorem Tryz.slices_SortFunc_none{α:Type}[Inhabited α](p:Option Addr)(cap:Nat)(fv:Value)(w:World):
  Calls Tryz.prog 130 #[.slice p 0 cap,fv] w fun e w'=>e=.returned (.tuple #[])∧w'=w:=AnyF.slices_SortFunc_none Tryz.agC p cap fv w
open Go.RowKit Go.Lib Go.Sort in
theorem Tryz.slices_SortFunc_total{α:Type}[Inhabited α](enc:α→Value)(h1:OneCell enc)(cf:α→α→Int)(hO:SWO (ltOf cf))(g:Nat)(cb:Array Value)(b_ off cap:Nat)(d:Array α)(w:World)(eg:∀args w,(callFunc g args).run Tryz.prog w=.ok (.enter g args) w)(Jx:CmpLays1 Tryz.prog g cb enc cf b_ off d.size w)(hH:Holds enc w b_ off d)(lA:b_<w.heap.size)(aY:d.size<4611686018427387904)(hT:∀x y,(ltOf cf) x y=false→(ltOf cf) y x=false→x=y):
  Calls Tryz.prog 130 #[.slice (some ⟨b_,off,none⟩) d.size cap,.func (.func g) #[] cb] w fun e w'=>
   e=.returned (.tuple #[])∧∃n os,w'=sortWorld enc w b_ off n (d.toList.mergeSort fun x y=>!(ltOf cf) y x).toArray os:=Any.slices_SortFunc_total Tryz.agE enc h1 cf hO g cb b_ off cap d w eg Jx hH lA aY hT
end Go.Proofs
namespace Go.T
open Go Go.Proofs
theorem fO.below{w w':World}(h:Go.RowKit.Below w.heap.size w w'):fO w w':=⟨h.size,fun b hb=>h.block b hb,h.os,h.output,.inr trivial⟩
theorem Z6(s:aa):Fc Tryz.prog 324 [.str s,.str [45]] (.bj [.str (cQ s).1,.b (cQ s).2]):=.pU fun w O ρ vals _ hv=>by
 obtain⟨rfl,hb,_⟩:=hv.C1;refine(Tryz.strings_CutPrefix ⟨s.toArray⟩ ⟨[45].toArray⟩ w).mono ?_;rintro e w' ⟨rfl,rfl⟩;have hs:=GI s;refine⟨_,rfl,?_,fO.refl _⟩;have h1:Lib.hasPrefix s [45]=(cQ s).2:=by
  cases s with
  |nil=>rfl
  |cons c r=>
   by_cases h:c=45
   ·subst h;simp[Lib.hasPrefix,cQ,List.isPrefixOf]
   ·have:cQ (c::r)=(c::r,false):=by unfold cQ;split<;>simp_all
    simp[Lib.hasPrefix,this,List.isPrefixOf];exact fun e=>h e.symm
 have h2:Lib.trimPrefix s [45]=(cQ s).1:=by
  unfold Lib.trimPrefix;rw[h1];cases s with
  |nil=>rfl
  |cons c r=>
   by_cases h:c=45
   ·subst h;simp[cQ]
   ·have:cQ (c::r)=(c::r,false):=by unfold cQ;split<;>simp_all
    simp[this]
 simp only[V];refine⟨_,rfl,?_⟩;simp only[Vs];exact⟨_,_,rfl,by simp only[V];exact⟨by rw[←h2],by omega⟩,_,_,rfl,by simp only[V];rw[←h1],rfl⟩
theorem abf(s:aa):s.dropWhile (· ==48)=eO s:=by
 induction s with
 |nil=>rfl
 |cons c r ih=>
  by_cases h:c=48
  ·subst h;simpa[eO]using ih
  ·have:eO (c::r)=c::r:=by unfold eO;split<;>simp_all
   rw[this];simp[h]
theorem ank(s:aa):Fc Tryz.prog 325 [.str s,.str [48]] (.str (eO s)):=.pU fun w O ρ vals _ hv=>by
 obtain⟨rfl,hb,_⟩:=hv.C1;refine(Tryz.strings_TrimLeft_one ⟨s.toArray⟩ 48 zD w).mono ?_;rintro e w' ⟨rfl,rfl⟩;refine⟨_,rfl,?_,fO.refl _⟩;have:=DY s;simp only[V];exact⟨by simp[Lib.trimLeftB,abf],by omega⟩
theorem UW:∀(s:aa)(acc:Nat),s.all bZ=true→acc*10^s.length+natVal s<1000000000000000000→Lib.parseUintM (2^64-1) acc s=.ok (acc*10^s.length+natVal s)
 |[],acc,_,_=>by simp[Lib.parseUintM,natVal]
 |c::s,acc,h,hb=>by
  simp only[List.all_cons,Bool.and_eq_true]at h;have hd:=h.1;simp only[bZ,Bool.and_eq_true,decide_eq_true_eq]at hd;have key:∀(s:aa)(a:Nat),s.foldl (fun a c=>10*a+(c.toNat-48)) a=a*10^s.length+natVal s:=by
   intro s;induction s with
   |nil=>intro a;simp[natVal]
   |cons c r ih=>
    intro a;rw[List.foldl_cons,ih];have:natVal (c::r)=(c.toNat-48)*10^r.length+natVal r:=by
     show(c::r).foldl _ 0=_;rw[List.foldl_cons,ih];simp
    rw[this,List.length_cons,Nat.pow_succ,Nat.add_mul];have:10*a*10^r.length=a*(10^r.length*10):=by rw[Nat.mul_comm 10 a,Nat.mul_assoc,Nat.mul_comm 10]
    omega
  have hv:natVal (c::s)=(c.toNat-48)*10^s.length+natVal s:=by
   show(c::s).foldl _ 0=_;rw[List.foldl_cons,key];simp
  have he:acc*10^(c::s).length+natVal (c::s)=(acc*10+(c.toNat-48))*10^s.length+natVal s:=by
   rw[hv,List.length_cons,Nat.pow_succ,Nat.add_mul,←Nat.mul_assoc,Nat.mul_right_comm];omega
  rw[he]at hb⊢;have hp:1≤10^s.length:=Nat.one_le_pow _ _ zO;have fZ:acc*10+(c.toNat-48)<1000000000000000000:=by
   have:(acc*10+(c.toNat-48))*1≤(acc*10+(c.toNat-48))*10^s.length:=Nat.mul_le_mul_left _ hp;omega
  rw[Lib.parseUintM,if_pos hd,if_neg zO,if_neg zO];exact UW s _ h.2 hb
theorem ajh(s:aa)(h0:s≠[])(hd:s.all bZ=true)(hl:s.length≤17):Fc Tryz.prog 283 [.str s,.raw (.int .i64 10),.raw (.int .i64 64)] (.bj [.raw (.int .u64 (natVal s)),.raw .nilIface]):=.pU fun w O ρ vals _ hv=>by
 simp only[Vs,V]at hv;obtain⟨u,us,rfl,⟨rfl,hb⟩,u',xH,rfl,rfl,u'',atj,rfl,rfl,rfl⟩:=hv;have Kc:=Lh hd hl;refine(Tryz.strconv_ParseUint_10_at64_ok ⟨s.toArray⟩ (by simp[ByteArray.size];omega) (natVal s) ?_ w).mono ?_
 ·have:=UW s 0 hd zO;simp only[Lib.parseUintB,if_neg h0];simpa using this
 ·rintro e w' ⟨rfl,hw⟩;refine⟨_,rfl,?_,?_⟩
  ·simp only[V];exact⟨_,rfl,by simp only[Vs];exact⟨_,_,rfl,by simp[V],_,_,rfl,by simp[V],rfl⟩⟩
  ·rcases hw with rfl|rfl
   ·exact fO.refl _
   ·exact fO.below (Lib.below_freeze ((RowKit.Below.drew (RowKit.Below.refl _ w)).alloc (Nat.le_refl _) _) (p:=⟨w.heap.size,_,none⟩) (Nat.le_refl _) _)
theorem repeatL_one(c:UInt8):∀n,Lib.repeatL [c] n=List.replicate n c
 |0=>rfl
 |n+1=>by simp[Lib.repeatL,repeatL_one c n,List.replicate_succ]
theorem VN(n:Int)(h0:0≤n)(h1:n≤1000):Fc Tryz.prog 288 [.str [48],.i n] (.str (List.replicate n.toNat 48)):=.pU fun w O ρ vals _ hv=>by
 simp only[Vs,V]at hv;obtain⟨u,us,rfl,⟨rfl,hb⟩,u',xH,rfl,rfl,rfl⟩:=hv;obtain⟨k,rfl⟩:∃k:Nat,n=k:=⟨n.toNat,by omega⟩;refine(Tryz.strings_Repeat ⟨[48].toArray⟩ k w zO (by simp[ByteArray.size];omega)).mono ?_;rintro e w' ⟨rfl,hw⟩;refine⟨_,rfl,?_,fO.below hw⟩;simp only[V];exact⟨by simp[repeatL_one],by simp[aG];omega⟩
theorem ae2(s:aa)(c:UInt8):Fc Tryz.prog 265 [.str s,.str [c]] (.i (Lib.indexByte s c)):=.pU fun w O ρ vals _ hv=>by
 obtain⟨rfl,hb,_⟩:=hv.C1;refine(Tryz.stringslite_Index_one ⟨s.toArray⟩ c w).mono ?_;rintro e w' ⟨rfl,rfl⟩;exact⟨_,rfl,by simp[V],fO.refl _⟩
open Go.Shelf Go.RowKit Go.Sort Go.Lib
theorem aeF(w:World)(T:TypeId)(nd:Nat)(hs:nd≤24):Holds (fun(b:UInt8)=>Value.int .u8 (b.toNat:Int)) (w.alloc (.cells Lib.zeros24 T)) w.heap.size 0 (Array.replicate nd (0:UInt8)):=fun j hj=>by
 have JP:j<nd:=by simpa using hj
 refine⟨?_,World.frozen?_alloc_new _ _ _ _⟩;rw[World.cell?_alloc_new,Lib.zeros24_at _ zO,getElem!_pos _ j hj];simp
theorem acy(w:World)(o:Obj)(dk:Array UInt8)(k:Nat):∃os,(putRow (fun(b:UInt8)=>Value.int .u8 (b.toNat:Int)) (w.alloc o) w.heap.size 0 dk).drewN k=grow (w.drewN k) os:=by
 rw[alloc_eq_grow];obtain⟨os',_,e⟩:=putRow_grow_new (fun(b:UInt8)=>Value.int .u8 (b.toNat:Int)) w #[o] w.heap.size 0 dk (Nat.le_refl _);exact⟨os',by rw[e];rfl⟩
theorem M7:Tryz.prog.follows .mixedOrders=true:=by kernel_rfl
set_option maxHeartbeats 6400000 in
set_option maxRecDepth 100000 in
theorem acR(u:Nat)(BC:u<18446744073709551616)(w:World)(Bz:Lib.TabIs Tryz.prog w "internal/strconv.uint64pow10" .u64 Lib.pow10Tab):
  Calls Tryz.prog 328 #[.int .u64 u,.int .i64 10] w fun e w'=>e=.returned (.string ⟨(Lib.decDigits u).toArray⟩)∧∃k os,w'=grow (w.drewN k) os:=by
 have mixed:=M7;by_cases hs:u<100
 ·have iu:(u:Int)<100:=by omega
  go_enter Tryz.func328,Tryz.ntmps328
  have hw:IntKind.i64.wrap (u:Int)=u:=IntWalk.i64_in _ ⟨by omega,by omega⟩
  go_wp2_with (go_at_call 345;refine(Tryz.internal_strconv_small u hs _).mono ?_;rintro e w' ⟨rfl,rfl⟩)
  go_ret
  exact⟨rfl,0,#[],by simp[World.drewN_zero]⟩
 ·have Rw:1≤u:=by omega
  have are:Lib.nDigits u≤20:=by have:=Lib.numDigits_eq u Rw BC;split at this<;>omega
  have EG:Tryz.prog.arrayLen 333=24:=by simp[Program.arrayLen,Tryz.underlying333]
  have ark:∀W,(Instr.sliceAt 333 (.pointer (some ⟨w.heap.size,0,none⟩)) none (some (.int .i64 (Lib.nDigits u:Int))) none).run Tryz.prog W=.ok (.slice (some ⟨w.heap.size,0,none⟩) (Lib.nDigits u) 24) W:=fun W=>by
   rw[run_sliceAt_array_h W 333 ⟨w.heap.size,0,none⟩ (by simp[Program.arrayLen,Program.elem,Tryz.underlying333]) .i64 (Lib.nDigits u:Int) zO (by rw[EG];omega)]
   go_simp
   try omega
  have rm:=aeF w 333 (Lib.nDigits u) zO;have QS:=Tryz.internal_strconv_formatBase10 w.heap.size 0 24 u (Array.replicate (Lib.nDigits u) 0) (w.alloc (.cells Lib.zeros24 333)) rm (by rw[Array.size_replicate];exact Lib.lt_pow_nDigits u) BC (by rw[Array.size_replicate];omega);rw[Array.size_replicate]at QS;have XK:=Lib.hid rm;have iu:(100:Int)≤(u:Int):=by omega
  clear rm EG
  go_enter Tryz.func328,Tryz.ntmps328
  go_wp2_with (first
   |(go_at_call 346;refine(Tryz.internal_strconv_numDigits u Rw BC _ (Lib.tabIs_alloc Bz _)).mono ?_;rintro e w' ⟨rfl,rfl⟩))
  go_at_call 347
  refine QS.mono ?_;rintro e w' ⟨rfl,k,v',dk,rfl,hF⟩;have QF:(convert 152 9 (.slice (some ⟨w.heap.size,0,none⟩) (Lib.nDigits u) 24)).run Tryz.prog ((putRow (fun(b:UInt8)=>Value.int .u8 (b.toNat:Int)) (w.alloc (.cells Lib.zeros24 333)) w.heap.size 0 dk).drewN k)=.ok (.string ⟨(Lib.decDigits u).toArray⟩) ((putRow (fun(b:UInt8)=>Value.int .u8 (b.toNat:Int)) (w.alloc (.cells Lib.zeros24 333)) w.heap.size 0 dk).drewN k):=by
   have h:=run_convert_bytes_back (P:=Tryz.prog) ((putRow (fun(b:UInt8)=>Value.int .u8 (b.toNat:Int)) (w.alloc (.cells Lib.zeros24 333)) w.heap.size 0 dk).drewN k) 152 9 5 ⟨w.heap.size,0,none⟩ 24 (Lib.decDigits u) Tryz.underlying152 Tryz.underlying5 Tryz.underlying9 (fun j hj=>by
    rw[Lib.row_is_numeral hF j hj,Lib.add_plain,World.cell?_drewN];exact cell?_putRow (fun(b:UInt8)=>Value.int .u8 (b.toNat:Int)) _ w.heap.size 0 _ dk XK.out (by rw[hF.size,Array.size_replicate]) j (by rw[hF.size];rw[Lib.decDigits_length]at hj;exact hj))
   rw[Lib.decDigits_length]at h;exact h
  go_wp2
  go_ret
  obtain⟨os,eo⟩:=acy w (.cells Lib.zeros24 333) dk k;exact⟨rfl,k,os,eo⟩
theorem Sa(w:World)(k:Nat)(os:Array Obj):fO w (grow (w.drewN k) os):=by
 have h:(w.drewN k).heap=w.heap∧(w.drewN k).os=w.os∧(w.drewN k).output=w.output:=by
  unfold World.drewN;exact⟨rfl,rfl,rfl⟩
 refine⟨?_,fun b hb=>?_,h.2.1,h.2.2,.inr trivial⟩
 ·show w.heap.size≤((w.drewN k).heap++os).size;rw[h.1,Array.size_append];omega
 ·show((w.drewN k).heap++os)[b]?=_;rw[h.1,Array.getElem?_append_left hb]
theorem Ww{w:World}{O:Nat→Prop}(h:Gl w O):Lib.TabIs Tryz.prog w "internal/strconv.uint64pow10" .u64 Lib.pow10Tab:=by
 obtain⟨⟨T,fr,h1⟩,_⟩:=h.1 5 _ (List.mem_singleton.2 rfl);have hg:Tryz.prog.globalNamed "internal/strconv.uint64pow10"=some 5:=by kernel_rfl
 unfold Lib.TabIs World.var?;rw[hg];have ct:Ge.map (fun(n:Nat)=>(n:Int))=Lib.pow10Tab:=by decide+kernel
 have:(Ge.map fun(n:Nat)=>Value.int .u64 (n:Int)).toArray=(Lib.pow10Tab.map fun z=>Value.int .u64 z).toArray:=by rw[←ct,List.map_map];rfl
 simp[h1,this]
theorem x8(u:Nat)(h:u≠0):Lib.decDigits u=gd u:=by
 induction u using Nat.strongRecOn with
 |_ u ih=>
  rw[Lib.decDigits,rY h];split
  ·rename_i hu;rw[Nat.div_eq_of_lt hu,jL,Nat.mod_eq_of_lt hu];rfl
  ·rw[ih (u/10) zO zO]
theorem acQ(u:Nat)(hu:u<18446744073709551616):Fc Tryz.prog 328 [.raw (.int .u64 u),.i 10] (.str (Lib.decDigits u)):=.pU fun w O ρ vals hg hv=>by
 simp only[Vs,V]at hv;obtain⟨_,_,rfl,rfl,_,_,rfl,rfl,rfl⟩:=hv;refine(acR u hu w (Ww hg)).mono ?_;rintro e w' ⟨rfl,k,os,rfl⟩;refine⟨_,rfl,?_,Sa w k os⟩;simp only[V];have:(Lib.decDigits u).length≤20:=by
  rw[Lib.decDigits_length];by_cases h:u=0
  ·subst h;rw[Lib.nDigits_small zO];omega
  ·have:=Lib.numDigits_eq u zO hu;split at this<;>omega
 exact⟨trivial,by unfold aG;omega⟩
end Go.T
namespace Go.T
open Go Go.Proofs Go.Shelf Go.RowKit
theorem NB:(Tryz.prog.info? 291).map (·.size)=some 2:=by kernel_rfl
theorem Yy:liesAt Tryz.prog Tryz.prog.depth 291 (2/Tryz.prog.cellsOf 291) 0 291 1=true:=by kernel_rfl
set_option maxHeartbeats 1000000 in
set_option maxRecDepth 100000 in
theorem ZR(b:Nat)(w:World)(h0:w.cell? ⟨b,0,none⟩=some (.pointer (some ⟨b,0,none⟩))):
  Calls Tryz.prog 327 #[.pointer (some ⟨b,0,none⟩)] w fun e w'=>e=.returned (.tuple #[])∧w'=w:=by
 obtain⟨j,hj,_⟩:=Option.map_eq_some_iff.1 NB
 go_enter Tryz.func327,Tryz.ntmps327
 go_wp2
 rw[Lib.run_neq_ptr_same w _ Tryz.underlying289 hj]
 go_wp2
 go_end0
 exact⟨rfl,rfl⟩
set_option maxHeartbeats 1000000 in
set_option maxRecDepth 100000 in
theorem ZQ(b:Nat)(w:World)(h0:w.cell? ⟨b,0,none⟩=some (.pointer none))(lB:w.shape? b=some (291,2))(rp:w.frozen? ⟨b,0,none⟩=false):
  Calls Tryz.prog 327 #[.pointer (some ⟨b,0,none⟩)] w fun e w'=>e=.returned (.tuple #[])∧w'=w.setCell ⟨b,0,none⟩ (.pointer (some ⟨b,0,none⟩)):=by
 obtain⟨j,hj,JR⟩:=Option.map_eq_some_iff.1 NB
 go_enter Tryz.func327,Tryz.ntmps327
 go_wp2
 rw[Lib.run_to_unsafe w ⟨b,0,none⟩ Tryz.underlying289 Tryz.underlying338 hj (by rw[JR];decide) lB (Nat.zero_lt_succ 1)];simp only[Result.andThen];rw[Oper.upon_value]
 go_wp2
 rw[run_callFunc_extern Tryz.func352 (by kernel_rfl) (by kernel_rfl) (by kernel_rfl) (e:=Extern.AbiNoEscape.same) (by kernel_rfl)];rw[Lib.run_noEscape];simp only[Result.andThen];rw[Oper.upon_value]
 go_wp2
 rw[Lib.run_from_unsafe w ⟨b,0,none⟩ Tryz.underlying338 Tryz.underlying289 hj lB Yy];simp only[Result.andThen];rw[Oper.upon_value]
 go_wp2
 go_end0
 exact⟨rfl,rfl⟩
theorem HM(id j n:Nat)(s:aa):dF Tryz.prog 327 [.box id 0] [(id,.eE j n),(j,.ba s)] (.bj []) [(id,.eE j n),(j,.ba s)]:=⟨fun w O ρ vals aj _ hv=>by
 simp only[Vs,V]at hv;obtain⟨_,_,rfl,⟨l,hl,rfl⟩,rfl⟩:=hv;have hg:ae.get [(id,Ob.eE j n),(j,.ba s)] id=some (.eE j n):=by simp[ae.get]
 obtain⟨l',h1,h2,p,v,h3,h4,h5⟩:=aj.own id _ hg rfl;rw[hl]at h1;cases h1;have hr:V w (Ot O ρ [(id,.eE j n),(j,.ba s)]) ρ (.bj []) (.tuple #[]):=by simp[V,Vs]
 rcases h4 with rfl|rfl
 ·refine(ZQ l.b w (by simp[World.cell?,h3]) (by simp[World.shape?,h3]) (by simp[World.frozen?,h3])).mono ?_;rintro e w' ⟨rfl,rfl⟩;have bg:=Tr.cm (o':=.eE j n) aj hg rfl hl (.cells #[.pointer (some ⟨l.b,0,none⟩),v] om (0,0)) (fun _=>⟨.pointer (some ⟨l.b,0,none⟩),v,by simp[(Array.getElem?_eq_some_iff.1 h3).1],.inr rfl,h5⟩);have qq:ae.set [(id,Ob.eE j n),(j,.ba s)] id (.eE j n)=[(id,.eE j n),(j,.ba s)]:=by simp[ae.set]
  rw[qq]at bg;have hw:{w with heap:=w.heap.setIfInBounds l.b (.cells #[.pointer (some ⟨l.b,0,none⟩),v] om (0,0))}=w.setCell ⟨l.b,0,none⟩ (.pointer (some ⟨l.b,0,none⟩)):=by
   have bw:=(Array.getElem?_eq_some_iff.1 h3).1;unfold World.setCell
   congr 1
   apply Array.ext zS;intro i g1 g2;rw[Array.getElem_setIfInBounds,Array.getElem_modify];have hi:i<w.heap.size:=by simpa using g1
   by_cases e:l.b=i
   ·subst e;have:w.heap[l.b]=.cells #[.pointer none,v] om (0,0):=Option.some.inj ((Array.getElem?_eq_getElem bw).symm.trans h3);simp[this]
   ·simp[e]
   ·simpa using g1
  rw[hw]at bg;exact⟨_,ρ,rfl,bg,bg.V hr⟩
 ·refine(ZR l.b w (by simp[World.cell?,h3])).mono ?_;rintro e w' ⟨rfl,rfl⟩;exact⟨_,ρ,rfl,Tr.refl aj,hr⟩⟩
set_option maxHeartbeats 1000000 in
set_option maxRecDepth 100000 in
theorem Yz(b g cap:Nat)(p:Value)(cur:Array Value)(l:List UInt8)(w:World)(h0:l≠[])(hbk:w.heap[b]?=some (.cells #[p,.slice (some ⟨g,0,none⟩) l.length cap] 291 (0,0)))(hg:w.heap[g]?=some (.cells cur 5 (0,0)))(Bo:l.length≤cap)(uE:cap≤9223372036854775807)(Jz:cur.size=cap)(aeT:cur.toList.take l.length=gI l):
  Calls Tryz.prog 289 #[.pointer (some ⟨b,0,none⟩)] w fun e w'=>e=.returned (.string ⟨l.toArray⟩)∧w'=w.drew.freeze ⟨g,0,none⟩ l.length:=by
 have mixed:=M7;have uK:l.length≠0:=by simpa using h0
 have c1:w.drew.cell? ⟨b,1,none⟩=some (.slice (some ⟨g,0,none⟩) l.length cap):=by
  have:w.drew.heap[b]?=some (.cells #[p,.slice (some ⟨g,0,none⟩) l.length cap] 291 (0,0)):=hbk;rw[Lib.cell_of_heap this];rfl
 have hSD:(Builtin.unsafeSliceData_ #[152] 316 #[.slice (some ⟨g,0,none⟩) l.length cap]).run Tryz.prog w.drew=.ok (.pointer (some ⟨g,0,none⟩)) w.drew:=
  Lib.run_unsafeSliceData_row _ _ _ _ _ _ zO
 have hUS:(Builtin.unsafeString_ #[316,3] 9 #[.pointer (some ⟨g,0,none⟩),.int .i64 l.length]).run Tryz.prog w.drew=.ok (.string ⟨l.toArray⟩) (w.drew.freeze ⟨g,0,none⟩ l.length):=by
  refine Lib.run_unsafeString_row w.drew 316 3 9 5 Tryz.underlying316 (by kernel_rfl) g cur.size (by have kZ:w.drew.heap[g]?=some (.cells cur 5 (0,0)):=hg;simp[World.shape?,kZ]) l h0 zO zO ?_;intro j x hx;have bw:j<l.length:=(List.getElem?_eq_some_iff.1 hx).1;have h1:(cur.toList.take l.length)[j]?=some (Value.int .u8 x.toNat):=by rw[aeT];simp[gI,hx]
  rw[List.getElem?_take,if_pos bw]at h1;have kZ:w.drew.heap[g]?=some (.cells cur 5 (0,0)):=hg;rw[Hh];simp only[World.cell?,kZ];simpa using h1
 go_enter Tryz.func289,Tryz.ntmps289
 go_wp2
 go_region_o
 all_goals(go_wp2;go_ret;exact⟨rfl,rfl⟩)
theorem NC(id j n:Nat)(s:aa)(hs:s≠[])(hn:s.length=n)(hb:n≤aG)(aD:Nat.beq id j=false):dF Tryz.prog 289 [.box id 0] [(id,.eE j n),(j,.ba s)] (.str s) [(id,.dead),(j,.dead)]:=⟨fun w O ρ vals aj _ hv=>by
 simp only[Vs,V]at hv;obtain⟨_,_,rfl,⟨l,hl,rfl⟩,rfl⟩:=hv;have Rc:id≠j:=by rintro rfl;simp at aD
 have hg:ae.get [(id,Ob.eE j n),(j,.ba s)] id=some (.eE j n):=by simp[ae.get]
 have QY:ae.get [(id,Ob.eE j n),(j,.ba s)] j=some (.ba s):=by simp[ae.get,aD]
 obtain⟨l',h1,h2,p,v,h3,h4,h5⟩:=aj.own id _ hg rfl;rw[hl]at h1;cases h1;have ei:(Ob.ba s).live=true:=by
  cases s with
  |nil=>exact absurd rfl hs
  |cons r rs=>rfl
 have dY:n≠0:=by rw[←hn];exact fun e=>hs (List.length_eq_zero_iff.1 e)
 obtain⟨lj,g1,g2,c,g3,g4,g5,g6,g7,g8⟩:=aj.own j _ QY ei;obtain⟨_,SP,k1,rfl⟩:n≠0∧∃lj,ρ j=some lj∧v=.slice (some ⟨lj.b,0,none⟩) n lj.cap:=by
  rcases h5 with⟨e,_⟩|h5
  ·exact absurd e dY
  ·exact h5
 rw[g1]at k1;cases k1;subst hn;refine(Yz l.b lj.b lj.cap p c s w hs h3 g3 g6 g7 g5 g8).mono ?_;rintro e w' ⟨rfl,rfl⟩;have rp:(w.drew.freeze ⟨lj.b,0,none⟩ s.length).heap=w.heap.setIfInBounds lj.b (.cells c mQ (0,s.length)):=by
  have bw:=(Array.getElem?_eq_some_iff.1 g3).1;unfold World.freeze;rw[if_neg dY];have QI:w.drew.heap=w.heap:=rfl;apply Array.ext zS;intro i q1 q2;rw[Array.getElem_setIfInBounds];simp only[QI,Array.getElem_modify];by_cases e:lj.b=i
  ·subst e;have:w.heap[lj.b]=.cells c mQ (0,0):=Option.some.inj ((Array.getElem?_eq_getElem bw).symm.trans g3);simp[this]
  ·simp[e]
  ·simpa[QI]using q1
 have hos:(w.drew.freeze ⟨lj.b,0,none⟩ s.length).os=w.os∧(w.drew.freeze ⟨lj.b,0,none⟩ s.length).output=w.output∧gV w (w.drew.freeze ⟨lj.b,0,none⟩ s.length):=by
  unfold World.freeze;rw[if_neg dY];exact⟨rfl,rfl,.inr trivial⟩
 have JC:∀i x,ae.get [(id,Ob.dead),(j,.dead)] i=some x→x.live=false:=by
  intro i x hx;simp only[ae.bf]at hx;split at hx
  ·cases hx;rfl
  ·split at hx
   ·cases hx;rfl
   ·simp[ae.get]at hx
 have bY:∀b,¬b8 ρ [(id,.dead),(j,.dead)] b:=by
  rintro b ⟨i,x,l2,q1,q2,_⟩;rw[JC i x q1]at q2;cases q2
 refine⟨_,ρ,rfl,⟨bI.refl _,by rw[rp];simp,fun b hb ho=>?_,fun b hb=>absurd hb (bY b),⟨fun b hb=>by rw[rp];simpa using aj.lt b hb,fun i hi=>aj.fresh i ?_,fun i x q1 q2=>?_,fun i j' x x' l1 l2 q1 q2 q3=>?_⟩,hos⟩,?_⟩
 ·rw[rp,Array.getElem?_setIfInBounds,if_neg];rintro rfl;exact ho ⟨j,_,lj,QY,ei,g1,rfl⟩
 ·simp only[ae.bf]at hi⊢;split at hi
  ·cases hi
  ·split at hi
   ·cases hi
   ·rename_i q1 q2;rw[if_neg q1,if_neg q2];rfl
 ·rw[JC i x q1]at q2;cases q2
 ·rw[JC i x q1]at q3;cases q3
 ·simp only[V];exact⟨trivial,hb⟩⟩
@[reducible] def x_:aa:=[48,49,50,51,52,53,54,55,56,57]
theorem aaE(c:UInt8):x_.contains c=bZ c:=by
 have h:∀n:Fin 256,x_.contains (UInt8.ofNat n.1)=bZ (UInt8.ofNat n.1):=by decide+kernel
 have:=h ⟨c.toNat,c.toNat_lt⟩;simpa using this
def C8(s:aa):aa:=Lib.trimS s x_
theorem D0(p:UInt8→Bool)(s:aa):s.dropWhile p=[]↔s.all p=true:=by
 induction s with
 |nil=>simp
 |cons c r ih=>
  by_cases h:p c=true
  ·rw[List.dropWhile_cons_of_pos h,ih];simp[h]
  ·rw[List.dropWhile_cons_of_neg h];simp[h]
theorem DZ(p:UInt8→Bool)(s:aa):(s.dropWhile p).length≤s.length:=by
 induction s with
 |nil=>simp
 |cons c r ih=>
  by_cases h:p c=true
  ·rw[List.dropWhile_cons_of_pos h];simp;omega
  ·rw[List.dropWhile_cons_of_neg h];simp
theorem OV(p:UInt8→Bool)(s:aa)(h:(s.dropWhile p).all p=true):s.all p=true:=by
 induction s with
 |nil=>rfl
 |cons c r ih=>
  by_cases hc:p c=true
  ·rw[List.dropWhile_cons_of_pos hc]at h;simp only[List.all_cons,hc,ih h,Bool.and_self]
  ·rw[List.dropWhile_cons_of_neg hc]at h;exact h
theorem GM(s:aa):C8 s=[]↔s.all bZ=true:=by
 have hp:(x_.contains ·)=bZ:=funext aaE;unfold C8 Lib.trimS Lib.trimLeftS Lib.trimRightS;rw[hp,D0,List.all_reverse];constructor
 ·intro h;have:=OV bZ s.reverse h;rwa[List.all_reverse]at this
 ·intro h;rw[(D0 bZ s.reverse).2 (by rwa[List.all_reverse])];rfl
theorem ani(s:aa):(C8 s).length≤s.length:=by
 unfold C8 Lib.trimS Lib.trimLeftS Lib.trimRightS;refine Nat.le_trans (DZ _ _) ?_;rw[List.length_reverse];refine Nat.le_trans (DZ _ _) zS
theorem anj(s:aa):Fc Tryz.prog 180 [.str s,.str x_] (.str (C8 s)):=.pU fun w O ρ vals _ hv=>by
 obtain⟨rfl,hb,_⟩:=hv.C1;refine(Any.strings_Trim_laid Tryz.Sv (by kernel_rfl) ⟨s.toArray⟩ ⟨x_.toArray⟩ w (by simp[ByteArray.size];unfold aG at hb;omega) zD (ascii_of_all zD)).mono ?_;rintro e w' ⟨rfl,hw⟩;refine⟨_,rfl,?_,fO.below hw⟩;have:=ani s;simp only[V];exact⟨rfl,by omega⟩
end Go.T
namespace Go.T
open Go
def cR(l:List Nat):Nat:=l.getLastD default
theorem uR{l pre rest:List Nat}{n:Int}(h:l=pre++rest)(h0:0<pre.length)(hn:n=(pre.length:Int)-1):(bb l)[n.toNat]?=some [.raw (.int .u64 (cR pre:Int))]:=E7 (fun(n:Nat)=>[D.raw (.int .u64 (n:Int))]) h h0 hn
def r5(y:Nat):aa:=List.replicate (9-(Lib.decDigits y).length) 48++Lib.decDigits y
def nq(lo:List Nat):aa:=(lo.reverse.map r5).flatten
theorem UR:nq []=[]:=rfl
theorem F6(i:List Nat)(x:Nat):nq (i++[x])=r5 x++nq i:=by simp[nq]
theorem US{lo:List Nat}(h:lo.length≠0):nq lo=r5 (cR lo)++nq lo.dropLast:=by
 rcases lV lo with rfl|⟨i,x,rfl⟩
 ·simp at h
 ·rw[F6];simp[cR]
def tZ(cD:Bool)(m:List Nat):aa:=if(bm m).length=0 then[]else(if cD then[45]else[])++Lib.decDigits (cR (bm m))++nq (bm m).dropLast
theorem x7{y:Nat}(h:y<gB):(Lib.decDigits y).length≤9:=by
 by_cases e:y=0
 ·subst e;rw[Lib.decDigits_length,Lib.nDigits_small zO];omega
 ·rw[x8 y e];exact zu 9 y (by unfold gB at h;omega)
theorem aje{y:Nat}(h:y<gB):(r5 y).length=9:=by
 have:=x7 h;simp[r5];omega
theorem wW{l:List Nat}(h:l.length≠0):cR l∈l:=by
 rcases lV l with rfl|⟨i,x,rfl⟩
 ·simp at h
 ·simp[cR]
theorem sD{l:List Nat}(h:l.length≠0):l=l.dropLast++[cR l]:=by
 rcases lV l with rfl|⟨i,x,rfl⟩
 ·simp at h
 ·simp[cR]
theorem HU(y:Nat):Lib.decDigits y≠[]:=by
 intro h;have:=congrArg List.length h;rw[Lib.decDigits_length]at this;rw[Lib.nDigits]at this;split at this<;>simp at this
theorem ah4(k:Nat):natVal (List.replicate k 48)=0:=by
 induction k with
 |zero=>rfl
 |succ k ih=>rw[List.replicate_succ',tj,ih];rfl
theorem T7(y:Nat):natVal (Lib.decDigits y)=y:=by
 by_cases e:y=0
 ·subst e;rw[Lib.decDigits];rfl
 ·rw[x8 y e,T8]
theorem ah2(y:Nat):natVal (r5 y)=y:=by
 unfold r5;rw[va,ah4,T7];omega
theorem UQ{lo:List Nat}(h:aR lo):(nq lo).length=9*lo.length:=by
 induction lo using qL with
 |h0=>rfl
 |h1 i x ih=>
  rw[F6,List.length_append,aje (h x zS),ih (fun y hy=>h y (by simp[hy]))];simp;omega
theorem ah3{lo:List Nat}(h:aR lo):natVal (nq lo)=an lo:=by
 induction lo using qL with
 |h0=>rfl
 |h1 i x ih=>
  have hi:aR i:=fun y hy=>h y (by simp[hy]);rw[F6,va,ah2,ih hi,u7,UQ hi];have:(10:Nat)^(9*i.length)=gB^i.length:=by rw[Nat.pow_mul];rfl
  rw[this];simp only[an,Nat.mul_zero,Nat.add_zero];rw[Nat.mul_comm x];omega
theorem Om(y:Nat):(Lib.decDigits y).all bZ=true:=by
 by_cases e:y=0
 ·subst e;rw[Lib.decDigits];decide
 ·rw[x8 y e];exact Ca y
theorem ajf(lo:List Nat):(nq lo).all bZ=true:=by
 induction lo using qL with
 |h0=>rfl
 |h1 i x ih=>
  rw[F6,List.all_append,ih,Bool.and_true];unfold r5;rw[List.all_append,Om,Bool.and_true];simp[bZ]
theorem FN{s:aa}(hd:s.all bZ=true)(h0:eO s=s):s=gd (natVal s):=by
 induction s using qL with
 |h0=>rw[show natVal []=0 from rfl,jL]
 |h1 i x ih=>
  rw[List.all_append,Bool.and_eq_true]at hd;have hx:=hd.2;simp only[List.all_cons,List.all_nil,Bool.and_true,bZ,Bool.and_eq_true,decide_eq_true_eq]at hx;rw[tj];have RA:UInt8.ofNat (48+(x.toNat-48))=x:=by
   rw[show 48+(x.toNat-48)=x.toNat by omega];simp
  cases i with
  |nil=>
   have aD:x.toNat≠48:=by
    intro e;have:=AN (s:=[x]) zS (by simpa using e);simp only[List.nil_append]at h0;rw[h0]at this;simp[eO]at this
   rw[show natVal ([]:aa)=0 from rfl,rY zO];have h1:(10*0+(x.toNat-48))/10=0:=by omega
   have h2:(10*0+(x.toNat-48))%10=x.toNat-48:=by omega
   rw[h1,h2,jL,RA]
  |cons c r=>
   have hc:eO (c::r)=c::r:=by
    apply uq;rintro⟨_,e⟩;have:=AN (s:=c::r++[x]) zS (by simpa using e);rw[h0]at this;have h3:=DY ((c::r++[x]).drop 1);rw[←this]at h3;simp at h3;omega
   have hi:=ih hd.1 hc;have J7:natVal (c::r)≠0:=by
    intro e;rw[e,jL]at hi;cases hi
   rw[rY zO];have h1:(10*natVal (c::r)+(x.toNat-48))/10=natVal (c::r):=by omega
   have h2:(10*natVal (c::r)+(x.toNat-48))%10=x.toNat-48:=by omega
   rw[h1,h2,←hi,RA]
theorem C6(cD:Bool){m:List Nat}(h:aR m):tZ cD m=ofInt (if cD then -(an m:Int)else an m):=by
 unfold tZ;have hc:=x5 h;have hv:=DM m;split
 ·rename_i h0;have:bm m=[]:=List.length_eq_zero_iff.1 h0;rw[this]at hv;rw[←hv];simp[an,Lu]
 ·rename_i h0;have e:=sD h0;have Q5:cR (bm m)≠0:=by
   rcases lV (bm m)with e2|⟨i,x,e2⟩
   ·rw[e2]at h0;simp at h0
   ·rw[e2];simp only[cR,List.getLastD_eq_getLast?,List.getLast?_append,List.getLast?_singleton,Option.some_or,Option.getD_some];intro ex;subst ex;have:bm (bm m)=bm m:=by
     unfold bm;rw[List.reverse_reverse];have:∀l:List Nat,(l.dropWhile (· ==0)).dropWhile (· ==0)=l.dropWhile (· ==0):=by
      intro l;induction l with
      |nil=>rfl
      |cons a l ih=>by_cases ha:a=0<;>simp[ha,ih]
     rw[this]
    rw[e2,sv]at this;have h3:=um i;rw[this]at h3;simp at h3;omega
  have pC:aR (bm m).dropLast:=fun y hy=>hc y (List.dropLast_subset _ hy);have Rb:an m=natVal (Lib.decDigits (cR (bm m))++nq (bm m).dropLast):=by
   rw[va,T7,ah3 pC,UQ pC,←hv];conv=>lhs;rw[e]
   rw[u7];have:(10:Nat)^(9*(bm m).dropLast.length)=gB^(bm m).dropLast.length:=by rw[Nat.pow_mul];rfl
   rw[this];simp only[an,Nat.mul_zero,Nat.add_zero];rw[Nat.mul_comm (cR (bm m))];omega
  have QJ:(Lib.decDigits (cR (bm m))++nq (bm m).dropLast).all bZ=true:=by rw[List.all_append,Om,ajf];rfl
  have hz:eO (Lib.decDigits (cR (bm m))++nq (bm m).dropLast)=Lib.decDigits (cR (bm m))++nq (bm m).dropLast:=by
   rw[x8 _ Q5];apply uq;rintro⟨_,e3⟩;cases hd:gd (cR (bm m))with
   |nil=>exact Q5 (Cb.1 hd)
   |cons c r=>rw[hd]at e3;exact Ld _ c r hd (by simpa using e3)
  have J7:an m≠0:=by
   intro e3;have h4:=FN QJ hz;rw[←Rb,e3,jL]at h4;have:=HU (cR (bm m));exact this (List.append_eq_nil_iff.1 h4).1
  have hu:=FN QJ hz;rw[←Rb]at hu;cases cD with
  |false=>
   simp only[Bool.false_eq_true,if_false,List.nil_append,hu];unfold ofInt;rw[if_neg zO];simp
  |true=>
   simp only[if_true,List.append_assoc,hu];unfold ofInt;rw[if_pos zO];simp
def gY:List Nat→List Nat→Nat→List Nat
 |[],_,c=>if 0<c then[c]else[]
 |a::x,[],c=>(a+c)%gB::gY x [] ((a+c)/gB)
 |a::x,b::y,c=>(a+c+b)%gB::gY x y ((a+c+b)/gB)
theorem dv:0<gB:=by unfold gB;omega
theorem Ds:∀(x y:List Nat)(c:Nat),y.length≤x.length→an (gY x y c)=an x+an y+c
 |[],y,c,h=>by
  have:y=[]:=List.length_eq_zero_iff.1 (by simpa using h);subst this;simp only[gY];split
  ·simp[an]
  ·simp[an];omega
 |a::x,[],c,h=>by
  simp only[gY,an,Ds x [] _ zS];have:=Nat.mod_add_div (a+c) gB;rw[Nat.mul_add,Nat.mul_add];omega
 |a::x,b::y,c,h=>by
  simp only[gY,an,Ds x y _ (by simpa using h)];have:=Nat.mod_add_div (a+c+b) gB;rw[Nat.mul_add,Nat.mul_add];omega
theorem Dr:∀(x y:List Nat)(c:Nat),aR x→aR y→c≤1→aR (gY x y c)
 |[],y,c,hx,hy,hc=>by
  simp only[gY];split
  ·intro z hz;simp at hz;subst hz;unfold gB;omega
  ·intro z hz;simp at hz
 |a::x,[],c,hx,hy,hc=>by
  have ha:=hx a zS;simp only[gY];intro z hz;rcases List.mem_cons.1 hz with rfl|hz
  ·exact Nat.mod_lt _ dv
  ·exact Dr x [] _ (fun u hu=>hx u (by simp[hu])) hy (by rw[Nat.div_le_iff_le_mul_add_pred dv];unfold gB at*;omega) z hz
 |a::x,b::y,c,hx,hy,hc=>by
  have ha:=hx a zS;have hb:=hy b zS;simp only[gY];intro z hz;rcases List.mem_cons.1 hz with rfl|hz
  ·exact Nat.mod_lt _ dv
  ·exact Dr x y _ (fun u hu=>hx u (by simp[hu])) (fun u hu=>hy u (by simp[hu])) (by rw[Nat.div_le_iff_le_mul_add_pred dv];unfold gB at*;omega) z hz
theorem Dq:∀(x y:List Nat)(c:Nat),(gY x y c).length≤x.length+1
 |[],y,c=>by simp only[gY];split<;>simp
 |a::x,[],c=>by simp only[gY,List.length_cons];have:=Dq x [] ((a+c)/gB);omega
 |a::x,b::y,c=>by simp only[gY,List.length_cons];have:=Dq x y ((a+c+b)/gB);omega
def mE(x y:List Nat):List Nat:=if x.length<y.length then gY y x 0 else gY x y 0
theorem LS(x y:List Nat):an (mE x y)=an x+an y:=by
 unfold mE;split
 ·rw[Ds _ _ _ zO];omega
 ·rw[Ds _ _ _ zO];omega
theorem Gc{x y:List Nat}(hx:aR x)(hy:aR y):aR (mE x y):=by
 unfold mE;split
 ·exact Dr _ _ _ hy hx zO
 ·exact Dr _ _ _ hx hy zO
theorem LR(x y:List Nat):(mE x y).length≤x.length+y.length+1:=by
 unfold mE;split
 ·have:=Dq y x 0;omega
 ·have:=Dq x y 0;omega
def fN:List Nat→List Nat→Nat→List Nat
 |[],_,_=>[]
 |a::x,[],c=>(if a<c then a+gB-c else a-c)::fN x [] (if a<c then 1 else 0)
 |a::x,b::y,c=>(if a<c+b then a+gB-(c+b)else a-(c+b))::fN x y (if a<c+b then 1 else 0)
theorem tX:∀(x y:List Nat)(c:Nat),aR x→aR y→c≤1→an y+c≤an x→an (fN x y c)=an x-(an y+c)
 |[],y,c,hx,hy,hc,h=>by
  simp only[an]at h;simp[fN,an]
 |a::x,[],c,hx,hy,hc,h=>by
  have ha:=hx a zS;have j7:aR x:=fun u hu=>hx u (by simp[hu]);simp only[an]at h;simp only[fN,an];by_cases hl:a<c
  ·rw[if_pos hl,if_pos hl];have h1:1≤an x:=by
    rcases Nat.eq_zero_or_pos (an x)with e|e
    ·rw[e]at h;omega
    ·exact e
   rw[tX x [] 1 j7 hy zO (by simp only[an];omega)];simp only[an];have:gB*(an x-(0+1))=gB*an x-gB:=by rw[Nat.mul_sub];omega
   rw[this];have:gB*1≤gB*an x:=Nat.mul_le_mul_left _ h1;unfold gB at*;omega
  ·rw[if_neg hl,if_neg hl,tX x [] 0 j7 hy zO (by simp only[an];omega)];simp only[an];rw[show an x-(0+0)=an x from by omega];omega
 |a::x,b::y,c,hx,hy,hc,h=>by
  have ha:=hx a zS;have hb:=hy b zS;have j7:aR x:=fun u hu=>hx u (by simp[hu]);have wP:aR y:=fun u hu=>hy u (by simp[hu]);simp only[an]at h;simp only[fN,an];by_cases hl:a<c+b
  ·rw[if_pos hl,if_pos hl];have h1:an y+1≤an x:=by
    rcases Nat.lt_or_ge (an y) (an x)with e|e
    ·omega
    ·have:=Nat.mul_le_mul_left gB e;omega
   rw[tX x y 1 j7 wP zO h1];have e1:gB*(an x-(an y+1))=gB*an x-(gB*an y+gB):=by rw[Nat.mul_sub,Nat.mul_add,Nat.mul_one]
   have e2:=Nat.mul_le_mul_left gB h1;rw[Nat.mul_add,Nat.mul_one]at e2;rw[e1];omega
  ·rw[if_neg hl,if_neg hl];have h1:an y≤an x:=by
    rcases Nat.lt_or_ge (an x) (an y)with e|e
    ·have:=Nat.mul_le_mul_left gB (show an x+1≤an y from e);rw[Nat.mul_add]at this;unfold gB at*;omega
    ·exact e
   rw[tX x y 0 j7 wP zO h1,Nat.add_zero,Nat.mul_sub];have:=Nat.mul_le_mul_left gB h1;omega
theorem xC:∀(x y:List Nat)(c:Nat),aR x→aR y→c≤1→aR (fN x y c)
 |[],y,c,hx,hy,hc=>by intro z hz;simp[fN]at hz
 |a::x,[],c,hx,hy,hc=>by
  have ha:=hx a zS;intro z hz;simp only[fN,List.mem_cons]at hz;rcases hz with rfl|hz
  ·split<;>omega
  ·exact xC x [] _ (fun u hu=>hx u (by simp[hu])) hy (by split<;>omega) z hz
 |a::x,b::y,c,hx,hy,hc=>by
  have ha:=hx a zS;have hb:=hy b zS;intro z hz;simp only[fN,List.mem_cons]at hz;rcases hz with rfl|hz
  ·split<;>omega
  ·exact xC x y _ (fun u hu=>hx u (by simp[hu])) (fun u hu=>hy u (by simp[hu])) (by split<;>omega) z hz
theorem C2:∀(x y:List Nat)(c:Nat),(fN x y c).length=x.length
 |[],y,c=>by simp[fN]
 |a::x,[],c=>by simp[fN,C2 x]
 |a::x,b::y,c=>by simp[fN,C2 x]
def iJ:List Nat→List Nat→Int
 |a::x,b::y=>if a<b then -1 else if b<a then 1 else iJ x y
 |_,_=>0
def iA(x y:List Nat):Int:=if x.length≠y.length then(x.length:Int)-y.length else iJ x.reverse y.reverse
end Go.T
