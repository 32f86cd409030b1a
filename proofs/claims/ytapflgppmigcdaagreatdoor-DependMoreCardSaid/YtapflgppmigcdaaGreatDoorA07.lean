/-
  Contracts of the functions that the statement reaches, and the logic in which they are proved (no condition): parts W2, Tab, W70, Spec2, Spec3, Spec4, Spec5, Spec6, Spec7, Spec8, Shelf.
-/
import Derived.Test.YtapflgppmigcdaaGreatDoorA06
import Derived.Test.YtapflgppmigcdaaGreatDoorProg
import Derived.KernelRfl
import Derived.Shelf.Strings.Builder1
import Derived.Shelf.Strings.Builder2
import Derived.Shelf.Strings.Trim
import Derived.Shelf.Small.Utf8
import Derived.Shelf.Small.Bits
import Derived.Shelf.Small.Strs
import Derived.Shelf.Small.Wraps
import Derived.Shelf.Strings.BuilderF
import Derived.Shelf.Strings.BuilderK
import Derived.Shelf.Utf8.RuneCount
import Derived.Shelf.Strconv.Atoi
import Derived.Shelf.Strconv.Itoa0
import Derived.Shelf.Strconv.Itoa1
import Derived.Shelf.LaysM
import Derived.Shelf.Strconv.Itoa2
import Derived.Shelf.Strconv.Itoa3
import Derived.Shelf.Strconv.AtoiErrFast
import Derived.Shelf.Strconv.ParseIntEmpty
import Derived.Shelf.Strconv.AtoiFail
import Derived.Shelf.Strconv.Clone
import Derived.Shelf.Strconv.SyntaxError
import Derived.Shelf.LaysC
import Derived.Shelf.Strconv.ToError
import Derived.Shelf.Strconv.Lower
import Derived.Shelf.Strconv.ParseUint10
import Derived.Shelf.Strconv.ParseUint10Empty
import Derived.Shelf.Strconv.ParseUint10Any
import Derived.Shelf.Strconv.ParseInt10
import Derived.Shelf.Strconv.AtoiLong
import Derived.Shelf.Strconv.AtoiInnerAll
import Derived.Shelf.Strconv.RangeError
import Derived.Shelf.Strconv.ToErrorRange
import Derived.Shelf.Strconv.AtoiAll
import Derived.Shelf.Strconv.ParseUint10b64
import Derived.Ground.MpProg
import Derived.Shelf.Pu.ParseUintPublic10
import Derived.Shelf.Strings.Search1
import Derived.Shelf.Strings.Search2
import Derived.Shelf.Strings.Search3
import Derived.Shelf.Strings.Cut
import Derived.Shelf.Strings.Count
import Derived.Shelf.Strings.Shaped
import Derived.Shelf.Strings.Prefix
import Derived.Shelf.Strings.Split
import Derived.Shelf.Strings.SplitShaped
import Derived.Shelf.Unicode.Decode
import Derived.Shelf.Strings.Runes
import Derived.Shelf.Strings.RuneCount
import Derived.Shelf.Strings.AsciiSet
import Derived.Shelf.Strings.Explode
import Derived.Shelf.Bits.Mul64
import Derived.Shelf.Strings.Repeat
import Derived.Shelf.Unicode.DecodeSlow
import Derived.Shelf.Unicode.DecodeAny
import Derived.Shelf.Unicode.DecodeLast
import Derived.Shelf.Slices.CompactS
import Derived.Ground.Names2Prog
import Derived.Shelf.Slices.SearchI
import Derived.Shelf.Slices.Cells
import Derived.Ground.SlsfProg
import Derived.Shelf.SlSortCmp.Insertion
import Derived.Ground.SlgmProg
import Derived.Shelf.SortM.Plain
import Derived.Shelf.SortM.SortNone
import Derived.Shelf.SlSortCmp.SiftDown1
import Derived.Shelf.SlSortCmp.HeapSort1
import Derived.Shelf.SlSortCmp.Insertion1
import Derived.Shelf.SlSortCmp.Median1
import Derived.Shelf.SlSortCmp.Pivot1
import Derived.Shelf.SlSortCmp.ReverseRange1
import Derived.Shelf.SlSortCmp.PartialInsertion1
import Derived.Shelf.SlSortCmp.PartitionEqual1
import Derived.Shelf.SlSortCmp.Partition1
import Derived.Shelf.SlSortCmp.Pdq1
import Derived.Shelf.SlSortCmp.Whole1
import Derived.Shelf.SlSortCmp.NoneTotal
set_option linter.all false
namespace Go.T
open Go Go.Proofs Go.Proofs.Tryz
set_option maxRecDepth 20000
theorem Tryz_mixed : Tryz.prog.follows .mixedOrders = true := by kernel_rfl
theorem long01_ok (s : Str) : Fc Tryz.prog 38 [.str s] (.b (decide (13 < s.length))) := by
 refine Fc.mk' [2] func38 rfl ntmps38 rfl rfl rfl (fun t w => results_tmp results38 t _ w) ?_
 refine Run.seq (Run.reg [.p] ?_)
 refine .ag rfl rfl <| .nil ?_
 refine Run.seq (Run.reg [.p, .p, .p, .p] ?_)
 refine .mv rfl rfl <| .P rfl (q_lenS underlying33 rfl) <| .P rfl (q_gtr rfl rfl) <| .ag rfl rfl <| .nil ?_
 refine Run.ret (?_)
 exact ret1 rfl (Sub.bool (by grind))
end Go.T
namespace Go.T
open Go Go.Proofs
set_option maxRecDepth 20000
def tk2 : {i : TyI // TyOK (Tryz.prog) 2 i} := ⟨_, ty2 [.raw (.int .i64 0)] Tryz.underlying2 Tryz.isAgg2 Tryz.sizeOf2 Tryz.zeroValue2 rfl⟩
def tk3 : {i : TyI // TyOK (Tryz.prog) 3 i} := ⟨_, ty2 [.raw (.int .i64 0)] Tryz.underlying3 Tryz.isAgg3 Tryz.sizeOf3 Tryz.zeroValue3 rfl⟩
def tk4 : {i : TyI // TyOK (Tryz.prog) 4 i} := ⟨_, ty2 [.raw (.bool false)] Tryz.underlying4 Tryz.isAgg4 Tryz.sizeOf4 Tryz.zeroValue4 rfl⟩
def tk5 : {i : TyI // TyOK (Tryz.prog) 5 i} := ⟨_, ty2 [.raw (.int .u8 0)] Tryz.underlying5 Tryz.isAgg5 Tryz.sizeOf5 Tryz.zeroValue5 rfl⟩
def tk9 : {i : TyI // TyOK (Tryz.prog) 9 i} := ⟨_, ty2 [.str []] Tryz.underlying9 Tryz.isAgg9 Tryz.sizeOf9 Tryz.zeroValue9 rfl⟩
def tk22 : {i : TyI // TyOK (Tryz.prog) 22 i} := ⟨_, ty2 [.raw (.slice none 0 0)] Tryz.underlying22 Tryz.isAgg22 Tryz.sizeOf22 Tryz.zeroValue22 rfl⟩
def tk23 : {i : TyI // TyOK (Tryz.prog) 23 i} := ⟨_, ty2 [.raw (.slice none 0 0)] Tryz.underlying23 Tryz.isAgg23 Tryz.sizeOf23 Tryz.zeroValue23 rfl⟩
def tk24 : {i : TyI // TyOK (Tryz.prog) 24 i} := ⟨_, ty2 [.raw (.slice none 0 0)] Tryz.underlying24 Tryz.isAgg24 Tryz.sizeOf24 Tryz.zeroValue24 rfl⟩
def tk25 : {i : TyI // TyOK (Tryz.prog) 25 i} := ⟨_, ty2 [.raw (.slice none 0 0)] Tryz.underlying25 Tryz.isAgg25 Tryz.sizeOf25 Tryz.zeroValue25 rfl⟩
def tk26 : {i : TyI // TyOK (Tryz.prog) 26 i} := ⟨_, ty2 [.raw (.slice none 0 0)] Tryz.underlying26 Tryz.isAgg26 Tryz.sizeOf26 Tryz.zeroValue26 rfl⟩
def tk28 : {i : TyI // TyOK (Tryz.prog) 28 i} := ⟨_, ty3 [(0, 1), (1, 1)] [.raw (.slice none 0 0), .raw (.slice none 0 0)] Tryz.underlying28 Tryz.isAgg28 Tryz.sizeOf28 Tryz.zeroValue28 rfl (fun w => by kernel_rfl)⟩
def tk30 : {i : TyI // TyOK (Tryz.prog) 30 i} := ⟨_, ty3 [(0, 1), (1, 1), (2, 1), (3, 2), (5, 1), (6, 1)] [.raw (.slice none 0 0), .raw (.slice none 0 0), .raw (.slice none 0 0), .raw (.slice none 0 0), .raw (.slice none 0 0), .raw (.slice none 0 0), .raw (.int .i64 0)] Tryz.underlying30 Tryz.isAgg30 Tryz.sizeOf30 Tryz.zeroValue30 rfl (fun w => by kernel_rfl)⟩
def tk31 : {i : TyI // TyOK (Tryz.prog) 31 i} := ⟨_, ty2 [.raw (.slice none 0 0)] Tryz.underlying31 Tryz.isAgg31 Tryz.sizeOf31 Tryz.zeroValue31 rfl⟩
def tk32 : {i : TyI // TyOK (Tryz.prog) 32 i} := ⟨_, ty2 [.raw (.int .i64 0)] Tryz.underlying32 Tryz.isAgg32 Tryz.sizeOf32 Tryz.zeroValue32 rfl⟩
def tk33 : {i : TyI // TyOK (Tryz.prog) 33 i} := ⟨_, ty2 [.str []] Tryz.underlying33 Tryz.isAgg33 Tryz.sizeOf33 Tryz.zeroValue33 rfl⟩
def tk35 : {i : TyI // TyOK (Tryz.prog) 35 i} := ⟨_, ty3 [(0, 1), (1, 1)] [.str [], .str []] Tryz.underlying35 Tryz.isAgg35 Tryz.sizeOf35 Tryz.zeroValue35 rfl (fun w => by kernel_rfl)⟩
def tk36 : {i : TyI // TyOK (Tryz.prog) 36 i} := ⟨_, ty2 [.raw (.slice none 0 0)] Tryz.underlying36 Tryz.isAgg36 Tryz.sizeOf36 Tryz.zeroValue36 rfl⟩
def tk37 : {i : TyI // TyOK (Tryz.prog) 37 i} := ⟨_, ty2 [.raw (.slice none 0 0)] Tryz.underlying37 Tryz.isAgg37 Tryz.sizeOf37 Tryz.zeroValue37 rfl⟩
def tk39 : {i : TyI // TyOK (Tryz.prog) 39 i} := ⟨_, ty3 [(0, 1), (1, 1), (2, 1), (3, 1), (4, 1), (5, 1), (6, 1), (7, 1), (8, 1), (9, 1), (10, 1), (11, 1), (12, 2), (14, 2), (16, 2), (18, 1), (19, 1), (20, 1)] [.str [], .raw (.int .i64 0), .raw (.bool false), .raw (.int .i64 0), .raw (.int .i64 0), .str [], .str [], .str [], .str [], .str [], .str [], .str [], .str [], .str [], .str [], .str [], .str [], .str [], .raw (.slice none 0 0), .raw (.slice none 0 0), .raw (.int .i64 0)] Tryz.underlying39 Tryz.isAgg39 Tryz.sizeOf39 Tryz.zeroValue39 rfl (fun w => by kernel_rfl)⟩
def tk41 : {i : TyI // TyOK (Tryz.prog) 41 i} := ⟨_, ty2 [.raw .nilFunc] Tryz.underlying41 Tryz.isAgg41 Tryz.sizeOf41 Tryz.zeroValue41 rfl⟩
def tk43 : {i : TyI // TyOK (Tryz.prog) 43 i} := ⟨_, ty2 [.raw (.slice none 0 0)] Tryz.underlying43 Tryz.isAgg43 Tryz.sizeOf43 Tryz.zeroValue43 rfl⟩
def tk44 : {i : TyI // TyOK (Tryz.prog) 44 i} := ⟨_, ty2 [.raw (.int .i64 0)] Tryz.underlying44 Tryz.isAgg44 Tryz.sizeOf44 Tryz.zeroValue44 rfl⟩
def tk48 : {i : TyI // TyOK (Tryz.prog) 48 i} := ⟨_, ty2 [.raw (.slice none 0 0)] Tryz.underlying48 Tryz.isAgg48 Tryz.sizeOf48 Tryz.zeroValue48 rfl⟩
def tk51 : {i : TyI // TyOK (Tryz.prog) 51 i} := ⟨_, ty2 [.raw .nilFunc] Tryz.underlying51 Tryz.isAgg51 Tryz.sizeOf51 Tryz.zeroValue51 rfl⟩
def tk52 : {i : TyI // TyOK (Tryz.prog) 52 i} := ⟨_, ty2 [.raw .nilFunc] Tryz.underlying52 Tryz.isAgg52 Tryz.sizeOf52 Tryz.zeroValue52 rfl⟩
def tk56 : {i : TyI // TyOK (Tryz.prog) 56 i} := ⟨_, ty2 [.raw .nilFunc] Tryz.underlying56 Tryz.isAgg56 Tryz.sizeOf56 Tryz.zeroValue56 rfl⟩
def tk65 : {i : TyI // TyOK (Tryz.prog) 65 i} := ⟨_, ty3 [(0, 1), (1, 1), (2, 1), (3, 1), (4, 1), (5, 1), (6, 2), (8, 2), (10, 1), (11, 1), (12, 1), (13, 2)] [.str [], .raw (.int .i64 0), .str [], .raw (.int .i64 0), .raw (.int .i64 0), .raw (.int .i64 0), .str [], .str [], .str [], .str [], .raw (.int .i64 0), .raw (.int .i64 0), .str [], .str [], .str []] Tryz.underlying65 Tryz.isAgg65 Tryz.sizeOf65 Tryz.zeroValue65 rfl (fun w => by kernel_rfl)⟩
def tk78 : {i : TyI // TyOK (Tryz.prog) 78 i} := ⟨_, ty2 [.raw (.slice none 0 0)] Tryz.underlying78 Tryz.isAgg78 Tryz.sizeOf78 Tryz.zeroValue78 rfl⟩
def tk81 : {i : TyI // TyOK (Tryz.prog) 81 i} := ⟨_, ty2 [.raw .nilFunc] Tryz.underlying81 Tryz.isAgg81 Tryz.sizeOf81 Tryz.zeroValue81 rfl⟩
def tk85 : {i : TyI // TyOK (Tryz.prog) 85 i} := ⟨_, ty3 [(0, 1), (1, 1)] [.str [], .str []] Tryz.underlying85 Tryz.isAgg85 Tryz.sizeOf85 Tryz.zeroValue85 rfl (fun w => by kernel_rfl)⟩
def tk87 : {i : TyI // TyOK (Tryz.prog) 87 i} := ⟨_, ty3 [(0, 1), (1, 2), (3, 2), (5, 2)] [.str [], .str [], .str [], .str [], .str [], .str [], .str []] Tryz.underlying87 Tryz.isAgg87 Tryz.sizeOf87 Tryz.zeroValue87 rfl (fun w => by kernel_rfl)⟩
def tk89 : {i : TyI // TyOK (Tryz.prog) 89 i} := ⟨_, ty3 [(0, 1), (1, 1)] [.str [], .raw (.int .i64 0)] Tryz.underlying89 Tryz.isAgg89 Tryz.sizeOf89 Tryz.zeroValue89 rfl (fun w => by kernel_rfl)⟩
def tk110 : {i : TyI // TyOK (Tryz.prog) 110 i} := ⟨_, ty3 [(0, 1), (1, 1)] [.str [], .raw (.int .i64 0)] Tryz.underlying110 Tryz.isAgg110 Tryz.sizeOf110 Tryz.zeroValue110 rfl (fun w => by kernel_rfl)⟩
def tk116 : {i : TyI // TyOK (Tryz.prog) 116 i} := ⟨_, ty2 [.raw (.slice none 0 0)] Tryz.underlying116 Tryz.isAgg116 Tryz.sizeOf116 Tryz.zeroValue116 rfl⟩
def tk118 : {i : TyI // TyOK (Tryz.prog) 118 i} := ⟨_, ty2 [.raw (.bool false), .raw (.bool false), .raw (.bool false), .raw (.bool false), .raw (.bool false), .raw (.bool false), .raw (.bool false), .raw (.bool false), .raw (.bool false), .raw (.bool false), .raw (.bool false), .raw (.bool false), .raw (.bool false)] Tryz.underlying118 Tryz.isAgg118 Tryz.sizeOf118 Tryz.zeroValue118 rfl⟩
def tk119 : {i : TyI // TyOK (Tryz.prog) 119 i} := ⟨_, ty2 [.raw (.map none)] Tryz.underlying119 Tryz.isAgg119 Tryz.sizeOf119 Tryz.zeroValue119 rfl⟩
def tk121 : {i : TyI // TyOK (Tryz.prog) 121 i} := ⟨_, ty3 [(0, 1), (1, 1), (2, 13), (15, 1), (16, 1)] [.str [], .raw (.int .i64 0), .raw (.bool false), .raw (.bool false), .raw (.bool false), .raw (.bool false), .raw (.bool false), .raw (.bool false), .raw (.bool false), .raw (.bool false), .raw (.bool false), .raw (.bool false), .raw (.bool false), .raw (.bool false), .raw (.bool false), .raw (.map none), .raw (.bool false)] Tryz.underlying121 Tryz.isAgg121 Tryz.sizeOf121 Tryz.zeroValue121 rfl (fun w => by kernel_rfl)⟩
def tk128 : {i : TyI // TyOK (Tryz.prog) 128 i} := ⟨_, ty2 [.raw (.map none)] Tryz.underlying128 Tryz.isAgg128 Tryz.sizeOf128 Tryz.zeroValue128 rfl⟩
def tk150 : {i : TyI // TyOK (Tryz.prog) 150 i} := ⟨_, ty2 [.raw .nilFunc] Tryz.underlying150 Tryz.isAgg150 Tryz.sizeOf150 Tryz.zeroValue150 rfl⟩
def tk152 : {i : TyI // TyOK (Tryz.prog) 152 i} := ⟨_, ty2 [.raw (.slice none 0 0)] Tryz.underlying152 Tryz.isAgg152 Tryz.sizeOf152 Tryz.zeroValue152 rfl⟩
def tk153 : {i : TyI // TyOK (Tryz.prog) 153 i} := ⟨_, ty2 [.raw .nilFunc] Tryz.underlying153 Tryz.isAgg153 Tryz.sizeOf153 Tryz.zeroValue153 rfl⟩
def tk154 : {i : TyI // TyOK (Tryz.prog) 154 i} := ⟨_, ty2 [.raw .nilFunc] Tryz.underlying154 Tryz.isAgg154 Tryz.sizeOf154 Tryz.zeroValue154 rfl⟩
def tk159 : {i : TyI // TyOK (Tryz.prog) 159 i} := ⟨_, ty2 [.raw .nilFunc] Tryz.underlying159 Tryz.isAgg159 Tryz.sizeOf159 Tryz.zeroValue159 rfl⟩
def tk184 : {i : TyI // TyOK (Tryz.prog) 184 i} := ⟨_, ty2 [.raw (.int .u64 0)] Tryz.underlying184 Tryz.isAgg184 Tryz.sizeOf184 Tryz.zeroValue184 rfl⟩
def tk192 : {i : TyI // TyOK (Tryz.prog) 192 i} := ⟨_, ty2 [.raw .nilFunc] Tryz.underlying192 Tryz.isAgg192 Tryz.sizeOf192 Tryz.zeroValue192 rfl⟩
def tk198 : {i : TyI // TyOK (Tryz.prog) 198 i} := ⟨_, ty3 [(0, 1), (1, 1)] [.raw (.bool false), .raw .nilFunc] Tryz.underlying198 Tryz.isAgg198 Tryz.sizeOf198 Tryz.zeroValue198 rfl (fun w => by kernel_rfl)⟩
def tk199 : {i : TyI // TyOK (Tryz.prog) 199 i} := ⟨_, ty2 [.raw (.bool false), .raw .nilFunc, .raw (.bool false), .raw .nilFunc, .raw (.bool false), .raw .nilFunc, .raw (.bool false), .raw .nilFunc, .raw (.bool false), .raw .nilFunc, .raw (.bool false), .raw .nilFunc] Tryz.underlying199 Tryz.isAgg199 Tryz.sizeOf199 Tryz.zeroValue199 rfl⟩
def tk205 : {i : TyI // TyOK (Tryz.prog) 205 i} := ⟨_, ty2 [.raw .nilFunc] Tryz.underlying205 Tryz.isAgg205 Tryz.sizeOf205 Tryz.zeroValue205 rfl⟩
def tk206 : {i : TyI // TyOK (Tryz.prog) 206 i} := ⟨_, ty2 [.raw .nilFunc] Tryz.underlying206 Tryz.isAgg206 Tryz.sizeOf206 Tryz.zeroValue206 rfl⟩
def tk208 : {i : TyI // TyOK (Tryz.prog) 208 i} := ⟨_, ty2 [.str [], .str [], .str [], .str [], .str [], .str [], .str [], .str [], .str [], .str [], .str [], .str [], .str [], .str [], .str [], .str [], .str [], .str [], .str [], .str [], .str [], .str [], .str [], .str [], .str [], .str []] Tryz.underlying208 Tryz.isAgg208 Tryz.sizeOf208 Tryz.zeroValue208 rfl⟩
def tk226 : {i : TyI // TyOK (Tryz.prog) 226 i} := ⟨_, ty2 [.raw .nilFunc] Tryz.underlying226 Tryz.isAgg226 Tryz.sizeOf226 Tryz.zeroValue226 rfl⟩
def tk244 : {i : TyI // TyOK (Tryz.prog) 244 i} := ⟨_, ty2 [.raw (.slice none 0 0)] Tryz.underlying244 Tryz.isAgg244 Tryz.sizeOf244 Tryz.zeroValue244 rfl⟩
def tk246 : {i : TyI // TyOK (Tryz.prog) 246 i} := ⟨_, ty3 [(0, 1), (1, 1)] [.raw (.bool false), .raw (.slice none 0 0)] Tryz.underlying246 Tryz.isAgg246 Tryz.sizeOf246 Tryz.zeroValue246 rfl (fun w => by kernel_rfl)⟩
def tk274 : {i : TyI // TyOK (Tryz.prog) 274 i} := ⟨_, ty2 [.raw (.int .i64 0), .raw (.int .i64 0), .raw (.int .i64 0), .raw (.int .i64 0), .raw (.int .i64 0), .raw (.int .i64 0)] Tryz.underlying274 Tryz.isAgg274 Tryz.sizeOf274 Tryz.zeroValue274 rfl⟩
def tk277 : {i : TyI // TyOK (Tryz.prog) 277 i} := ⟨_, ty2 [.raw .nilFunc] Tryz.underlying277 Tryz.isAgg277 Tryz.sizeOf277 Tryz.zeroValue277 rfl⟩
def tk278 : {i : TyI // TyOK (Tryz.prog) 278 i} := ⟨_, ty2 [.raw .nilFunc] Tryz.underlying278 Tryz.isAgg278 Tryz.sizeOf278 Tryz.zeroValue278 rfl⟩
def tk279 : {i : TyI // TyOK (Tryz.prog) 279 i} := ⟨_, ty2 [.raw .nilFunc, .raw .nilFunc, .raw .nilFunc, .raw .nilFunc] Tryz.underlying279 Tryz.isAgg279 Tryz.sizeOf279 Tryz.zeroValue279 rfl⟩
def Tz : Bst Tryz.prog := .node 81 tk81 (.node 33 tk33 (.node 24 tk24 (.node 5 tk5 (.node 3 tk3 (.node 2 tk2 .leaf .leaf) (.node 4 tk4 .leaf .leaf)) (.node 22 tk22 (.node 9 tk9 .leaf .leaf) (.node 23 tk23 .leaf .leaf))) (.node 30 tk30 (.node 26 tk26 (.node 25 tk25 .leaf .leaf) (.node 28 tk28 .leaf .leaf)) (.node 32 tk32 (.node 31 tk31 .leaf .leaf) .leaf))) (.node 44 tk44 (.node 39 tk39 (.node 36 tk36 (.node 35 tk35 .leaf .leaf) (.node 37 tk37 .leaf .leaf)) (.node 43 tk43 (.node 41 tk41 .leaf .leaf) .leaf)) (.node 56 tk56 (.node 51 tk51 (.node 48 tk48 .leaf .leaf) (.node 52 tk52 .leaf .leaf)) (.node 78 tk78 (.node 65 tk65 .leaf .leaf) .leaf)))) (.node 184 tk184 (.node 121 tk121 (.node 110 tk110 (.node 87 tk87 (.node 85 tk85 .leaf .leaf) (.node 89 tk89 .leaf .leaf)) (.node 118 tk118 (.node 116 tk116 .leaf .leaf) (.node 119 tk119 .leaf .leaf))) (.node 153 tk153 (.node 150 tk150 (.node 128 tk128 .leaf .leaf) (.node 152 tk152 .leaf .leaf)) (.node 159 tk159 (.node 154 tk154 .leaf .leaf) .leaf))) (.node 226 tk226 (.node 205 tk205 (.node 198 tk198 (.node 192 tk192 .leaf .leaf) (.node 199 tk199 .leaf .leaf)) (.node 208 tk208 (.node 206 tk206 .leaf .leaf) .leaf)) (.node 277 tk277 (.node 246 tk246 (.node 244 tk244 .leaf .leaf) (.node 274 tk274 .leaf .leaf)) (.node 279 tk279 (.node 278 tk278 .leaf .leaf) .leaf))))
theorem tzOK [Noise] : TabOK Tryz.prog Tz.get := ⟨Tz.ok, Tryz_mixed⟩
theorem go [Noise] {F : Fr} {cs : List Code} {Q : Exit → Env → Obs → Prop} {env : Env} {obs : Obs} (stop : List Nat) (h : goS Tz.get Tryz.prog F stop Q 3000 (.code cs [] env obs)) : Run Tryz.prog F cs Q env obs := goX_ok tzOK 3000 cs Q env obs h
open Go.Proofs.Tryz
structure greatFrs_ok_L0 (l : List Frac) where
 pre : List Frac
 rest : List Frac
 hx : l = pre ++ rest
 hp : pre.any greatFr = false
theorem greatFrs_ok (l : List Frac) : Fc Tryz.prog 116 [sFracs l] (.b (l.any greatFr)) := by
 refine Fc.mk' [2] func116 rfl ntmps116 rfl rfl rfl (fun t w => results_tmp results116 t _ w) ?_
 refine Run.bSnap 0 rfl (fun hb => ?_)
 simp only [List.length_map, big] at hb
 refine go [] ?_
 refine Run.loop (ι := greatFrs_ok_L0 l) (fun sx => [(0, sFracs l), (2, .b false), (3, .i sx.pre.length)]) (fun sx => []) (fun sx => sx.rest.length) ⟨[], _, rfl, rfl⟩ ?_ ?_
 ·exact Le.mk rfl (.s rfl rfl (.s rfl rfl (.s rfl rfl .nil))) .nil
 ·rintro ⟨pre, rest, hx, hp⟩
  show Run _ _ _ _ [(0, sFracs l), (2, .b false), (3, .i pre.length)] []
  have hl := congrArg List.length hx
  simp only [List.length_append] at hl
  rcases rest with _ | ⟨x, rest⟩
  ·skip
   refine go [] ?_
   refine brF (by simp at hl ⊢; omega) ?_
   refine go [] ?_
   exact rx1 rfl (Sub.bool (by exact (any_F hx hp).symm))
  ·simp only [List.length_cons] at hl
   refine go [] ?_
   refine brT (by simp; omega) ?_
   refine ix (by omega) (iMd encFrac hx rfl) ?_
   refine ixG (fun hg => And.intro (by omega) (iMd encFrac hx rfl)) ?_
   refine br (fun h1 => ?_) (fun h1 => ?_)
   ·exact rx1 rfl (Sub.bool (by exact (any_T hx h1).symm))
   ·refine sd (w64 (by omega)) ?_
    exact nx ⟨pre ++ [x], rest, by simp [hx], any_S hp h1⟩ (by simp) (Le.mk rfl (.s rfl rfl (.s rfl rfl (.cons rfl (Sub.int (by simp)) rfl .nil))) .nil)
structure longFrs_ok_L0 (l : List Frac) where
 pre : List Frac
 rest : List Frac
 hx : l = pre ++ rest
 hp : pre.any longFr = false
theorem longFrs_ok (l : List Frac) : Fc Tryz.prog 84 [sFracs l] (.b (l.any longFr)) := by
 refine Fc.mk' [2] func84 rfl ntmps84 rfl rfl rfl (fun t w => results_tmp results84 t _ w) ?_
 refine Run.bSnap 0 rfl (fun hb => ?_)
 simp only [List.length_map, big] at hb
 refine go [] ?_
 refine Run.loop (ι := longFrs_ok_L0 l) (fun sx => [(0, sFracs l), (2, .b false), (3, .i sx.pre.length)]) (fun sx => []) (fun sx => sx.rest.length) ⟨[], _, rfl, rfl⟩ ?_ ?_
 ·exact Le.mk rfl (.s rfl rfl (.s rfl rfl (.s rfl rfl .nil))) .nil
 ·rintro ⟨pre, rest, hx, hp⟩
  show Run _ _ _ _ [(0, sFracs l), (2, .b false), (3, .i pre.length)] []
  have hl := congrArg List.length hx
  simp only [List.length_append] at hl
  rcases rest with _ | ⟨x, rest⟩
  ·skip
   refine go [] ?_
   refine brF (by simp at hl ⊢; omega) ?_
   refine go [] ?_
   exact rx1 rfl (Sub.bool (by exact (any_F hx hp).symm))
  ·simp only [List.length_cons] at hl
   refine go [] ?_
   refine brT (by simp; omega) ?_
   refine ix (by omega) (iMd encFrac hx rfl) ?_
   refine ixG (fun hg => And.intro (by omega) (iMd encFrac hx rfl)) ?_
   refine br (fun h1 => ?_) (fun h1 => ?_)
   ·exact rx1 rfl (Sub.bool (by exact (any_T hx h1).symm))
   ·refine sd (w64 (by omega)) ?_
    exact nx ⟨pre ++ [x], rest, by simp [hx], any_S hp h1⟩ (by simp) (Le.mk rfl (.s rfl rfl (.s rfl rfl (.cons rfl (Sub.int (by simp)) rfl .nil))) .nil)
structure greatInsts_ok_L0 (l : List Inst) where
 pre : List Inst
 rest : List Inst
 hx : l = pre ++ rest
 hp : pre.any greatInst = false
theorem greatInsts_ok (l : List Inst) : Fc Tryz.prog 79 [sInsts l] (.b (greatInsts l)) := by
 refine Fc.mk' [2] func79 rfl ntmps79 rfl rfl rfl (fun t w => results_tmp results79 t _ w) ?_
 refine Run.bSnap 0 rfl (fun hb => ?_)
 simp only [List.length_map, big] at hb
 refine go [] ?_
 refine Run.loop (ι := greatInsts_ok_L0 l) (fun sx => [(0, sInsts l), (2, .b false), (3, .i sx.pre.length)]) (fun sx => []) (fun sx => sx.rest.length) ⟨[], _, rfl, rfl⟩ ?_ ?_
 ·exact Le.mk rfl (.s rfl rfl (.s rfl rfl (.s rfl rfl .nil))) .nil
 ·rintro ⟨pre, rest, hx, hp⟩
  show Run _ _ _ _ [(0, sInsts l), (2, .b false), (3, .i pre.length)] []
  have hl := congrArg List.length hx
  simp only [List.length_append] at hl
  rcases rest with _ | ⟨x, rest⟩
  ·skip
   refine go [] ?_
   refine brF (by simp at hl ⊢; omega) ?_
   refine go [] ?_
   exact rx1 rfl (Sub.bool (by exact or2 (any_F hx hp) (by simp)))
  ·simp only [List.length_cons] at hl
   refine go [] ?_
   refine brT (by simp; omega) ?_
   refine ix (by omega) (iMd encInst hx rfl) ?_
   refine gP (fun hg => qBu (n := 3) (rows := [encFrac x.face, encFrac x.coupon, encFrac x.strike]) underlying116 sizeOf35 rfl rfl rfl zeroValue35 rfl rfl rfl rfl rfl rfl rfl) ?_
   refine gP (fun hg => qCa call116 rfl (greatFrs_ok [x.face, x.coupon, x.strike]).sub) ?_
   refine br (fun h1 => ?_) (fun h1 => ?_)
   ·exact rx1 rfl (Sub.bool (by exact or1 (any_T hx h1)))
   ·refine sd (w64 (by omega)) ?_
    exact nx ⟨pre ++ [x], rest, by simp [hx], any_S hp h1⟩ (by simp) (Le.mk rfl (.s rfl rfl (.s rfl rfl (.cons rfl (Sub.int (by simp)) rfl .nil))) .nil)
structure greatTab_ok_L0 (l : List Cur) where
 pre : List Cur
 rest : List Cur
 hx : l = pre ++ rest
 hp : pre.any (fun c => gt 8 c.code) = false
 h24 : pre.length ≤ 24
theorem greatTab_ok (l : List Cur) : Fc Tryz.prog 80 [sCurs l] (.b (greatTab l)) := by
 refine Fc.mk' [2] func80 rfl ntmps80 rfl rfl rfl (fun t w => results_tmp results80 t _ w) ?_
 refine Run.bSnap 0 rfl (fun hb => ?_)
 simp only [List.length_map, big] at hb
 refine go [] ?_
 refine Run.loop (ι := greatTab_ok_L0 l) (fun sx => [(0, sCurs l), (2, .b false), (3, .i sx.pre.length)]) (fun sx => []) (fun sx => sx.rest.length) ⟨[], _, rfl, rfl, by simp⟩ ?_ ?_
 ·exact Le.mk rfl (.s rfl rfl (.s rfl rfl (.s rfl rfl .nil))) .nil
 ·rintro ⟨pre, rest, hx, hp, h24⟩
  show Run _ _ _ _ [(0, sCurs l), (2, .b false), (3, .i pre.length)] []
  have hl := congrArg List.length hx
  simp only [List.length_append] at hl
  rcases rest with _ | ⟨x, rest⟩
  ·skip
   refine go [] ?_
   refine brF (by simp at hl ⊢; omega) ?_
   refine go [] ?_
   exact rx1 rfl (Sub.bool (by exact or2 (any24_F hx hp h24 (by left; rfl)) (by simp)))
  ·simp only [List.length_cons] at hl
   refine go [] ?_
   refine br (fun h1 => ?_) (fun h1 => ?_)
   ·refine ix (by omega) (iMd encCur hx rfl) ?_
    refine br (fun h2 => ?_) (fun h2 => ?_)
    ·exact rx1 rfl (Sub.bool (by exact or1 (any24_T hx h2 (by simp only [bs] at h1; omega))))
    ·refine sd (w64 (by omega)) ?_
     exact nx ⟨pre ++ [x], rest, by simp [hx], any_S hp h2, by simp at h1 ⊢; omega⟩ (by simp) (Le.mk rfl (.s rfl rfl (.s rfl rfl (.cons rfl (Sub.int (by simp)) rfl .nil))) .nil)
   ·refine go [] ?_
    exact rx1 rfl (Sub.bool (by exact or2 (any24_F hx hp h24 (by right; simp at h1; omega)) (by simp)))
theorem greatCal_ok (w h : List Int) : Fc Tryz.prog 81 [.agg [sInts w, sInts h]] (.b (greatCal w h)) := by
 refine Fc.mk' [2] func81 rfl ntmps81 rfl rfl rfl (fun t w => results_tmp results81 t _ w) ?_
 refine go [] ?_
 exact rx1 rfl (Sub.bool (by simp [greatCal]))
structure greatSetup_ok_L0 (s : Setup) where
 pre : List Acct
 rest : List Acct
 hx : s.accts = pre ++ rest
 hp : pre.any (fun a => gt 120 a.code) = false
theorem greatSetup_ok (s : Setup) : Fc Tryz.prog 35 [.agg (encSetup s)] (.b (greatSetup s)) := by
 refine Fc.mk' [2] func35 rfl ntmps35 rfl rfl rfl (fun t w => results_tmp results35 t _ w) ?_
 refine Run.bAgg 0 2 rfl rfl (fun hb => ?_)
 simp only [List.length_map, big] at hb
 refine go [] ?_
 refine Run.loop (ι := greatSetup_ok_L0 s) (fun sx => [(1, .box 0 0), (2, .b false), (3, .i sx.pre.length)]) (fun sx => [(0, .cells (encSetup s))]) (fun sx => sx.rest.length) ⟨[], _, rfl, rfl⟩ ?_ ?_
 ·exact Le.mk rfl (.s rfl rfl (.s rfl rfl (.s rfl rfl .nil))) (.cons rfl rfl .nil)
 ·rintro ⟨pre, rest, hx, hp⟩
  show Run _ _ _ _ [(1, .box 0 0), (2, .b false), (3, .i pre.length)] [(0, .cells (encSetup s))]
  have hl := congrArg List.length hx
  simp only [List.length_append] at hl
  rcases rest with _ | ⟨x, rest⟩
  ·skip
   refine go [] ?_
   refine brF (by simp at hl ⊢; omega) ?_
   refine go [] ?_
   refine br (fun h1 => ?_) (fun h1 => ?_)
   ·exact rx1 rfl (Sub.bool (by exact or1 (or2 (any_F hx hp) (h1.symm.trans (by simp))).symm))
   ·refine oP (qCa call79 rfl (greatInsts_ok _)) ?_
    refine gP (fun hg => qCa call80 rfl (greatTab_ok _)) ?_
    refine gP (fun hg => qCa call81 rfl (greatCal_ok _ _)) ?_
    exact rx1 rfl (Sub.bool (by exact or2 (or2 (any_F hx hp) (h1.symm.trans (by simp))).symm (by simp)))
  ·simp only [List.length_cons] at hl
   refine go [] ?_
   refine brT (by simp; omega) ?_
   refine ix (by omega) (iMd encAcct hx rfl) ?_
   refine br (fun h2 => ?_) (fun h2 => ?_)
   ·exact rx1 rfl (Sub.bool (by exact or1 (or1 (any_T hx h2)).symm))
   ·refine sd (w64 (by omega)) ?_
    exact nx ⟨pre ++ [x], rest, by simp [hx], any_S hp h2⟩ (by simp) (Le.mk rfl (.s rfl rfl (.s rfl rfl (.cons rfl (Sub.int (by simp)) rfl .nil))) (.cons rfl rfl .nil))
theorem longFr_ok (f : Frac) : Fc Tryz.prog 39 [.agg (encFrac f)] (.b (longFr f)) := by
 refine Fc.mk' [2] func39 rfl ntmps39 rfl rfl rfl (fun t w => results_tmp results39 t _ w) ?_
 refine go [] ?_
 refine oP (qBu (n := 1) (rows := [encFrac f]) underlying116 sizeOf35 rfl rfl rfl zeroValue35 rfl rfl rfl rfl rfl rfl rfl) ?_
 refine oP (qCa call84 rfl (longFrs_ok [f]).sub) ?_
 exact rx1 rfl (Sub.bool (by simp))
structure greatFact_ok_L0 (f : Fact) where
 pre : List Pick
 rest : List Pick
 hx : f.picks = pre ++ rest
 hp : pre.any greatPick = false
structure greatFact_ok_L1 (f : Fact) (hpk : f.picks.any greatPick = false) where
 preq : List Opt
 restq : List Opt
 hxq : f.opts = preq ++ restq
 hpq : preq.any greatOpt = false
theorem greatFact_ok (f : Fact) : Fc Tryz.prog 8 [.agg (encFact f)] (.b (greatFact f)) := by
 refine Fc.mk' [2] func8 rfl ntmps8 rfl rfl rfl (fun t w => results_tmp results8 t _ w) ?_
 refine Run.bAgg 0 18 rfl rfl (fun hb => ?_)
 simp only [List.length_map, big] at hb
 refine Run.bAgg 0 19 rfl rfl (fun hb2 => ?_)
 simp only [List.length_map, big] at hb2
 refine go [] ?_
 refine gP (fun hg => qCa call38 rfl (long01_ok _)) ?_
 refine gP (fun hg => qCa call38 rfl (long01_ok _)) ?_
 refine gP (fun hg => qCa call38 rfl (long01_ok _)) ?_
 refine gP (fun hg => qCa call39 rfl (longFr_ok _)) ?_
 refine gP (fun hg => qCa call39 rfl (longFr_ok _)) ?_
 refine gP (fun hg => qCa call39 rfl (longFr_ok _)) ?_
 refine br (fun h1 => ?_) (fun h1 => ?_)
 ·exact rx1 rfl (Sub.bool (by exact or1 h1))
 ·refine br (fun h2 => ?_) (fun h2 => ?_)
  ·exact rx1 rfl (Sub.bool (by exact or2 h1 (or1 (by simpa [greatFact2] using h2))))
  ·refine Run.loop (ι := greatFact_ok_L0 f) (fun sx => [(1, .box 0 0), (2, .b false), (3, .i sx.pre.length)]) (fun sx => [(0, .cells (encFact f))]) (fun sx => sx.rest.length) ⟨[], _, rfl, rfl⟩ ?_ ?_
   ·exact Le.mk rfl (.s rfl rfl (.s rfl rfl (.s rfl rfl .nil))) (.cons rfl rfl .nil)
   ·rintro ⟨pre, rest, hx, hp⟩
    show Run _ _ _ _ [(1, .box 0 0), (2, .b false), (3, .i pre.length)] [(0, .cells (encFact f))]
    have hl := congrArg List.length hx
    simp only [List.length_append] at hl
    rcases rest with _ | ⟨x, rest⟩
    ·have hpk := any_F hx hp
     refine go [] ?_
     refine brF (by simp at hl ⊢; omega) ?_
     refine go [] ?_
     refine Run.loop (ι := greatFact_ok_L1 f hpk) (fun sx => [(1, .box 0 0), (2, .b false), (4, .i sx.preq.length)]) (fun sx => [(0, .cells (encFact f))]) (fun sx => sx.restq.length) ⟨[], _, rfl, rfl⟩ ?_ ?_
     ·exact Le.mk rfl (.s rfl rfl (.s rfl rfl (.s rfl rfl .nil))) (.cons rfl rfl .nil)
     ·rintro ⟨preq, restq, hxq, hpq⟩
      show Run _ _ _ _ [(1, .box 0 0), (2, .b false), (4, .i preq.length)] [(0, .cells (encFact f))]
      have hlq := congrArg List.length hxq
      simp only [List.length_append] at hlq
      rcases restq with _ | ⟨xq, restq⟩
      ·skip
       refine go [] ?_
       refine brF (by simp at hlq ⊢; omega) ?_
       refine go [] ?_
       exact rx1 rfl (Sub.bool (by exact or2 h1 (or2 (by simpa [greatFact2] using h2) (or2 hpk (any_F hxq hpq).symm))))
      ·simp only [List.length_cons] at hlq
       refine go [] ?_
       refine brT (by simp; omega) ?_
       refine ix (by omega) (iMd encOpt hxq rfl) ?_
       refine gP (fun hg => qCa call39 rfl (longFr_ok _)) ?_
       refine gP (fun hg => qCa call39 rfl (longFr_ok _)) ?_
       refine gP (fun hg => qCa call39 rfl (longFr_ok _)) ?_
       refine br (fun h3 => ?_) (fun h3 => ?_)
       ·exact rx1 rfl (Sub.bool (by exact or2 h1 (or2 (by simpa [greatFact2] using h2) (or2 hpk (any_T hxq h3).symm))))
       ·refine sd (w64 (by omega)) ?_
        exact nx ⟨preq ++ [xq], restq, by simp [hxq], any_S hpq h3⟩ (by simp) (Le.mk rfl (.s rfl rfl (.s rfl rfl (.cons rfl (Sub.int (by simp)) rfl .nil))) (.cons rfl rfl .nil))
    ·simp only [List.length_cons] at hl
     refine go [] ?_
     refine brT (by simp; omega) ?_
     refine ix (by omega) (iMd encPick hx rfl) ?_
     refine ixG (fun hg => And.intro (by omega) (iMd encPick hx rfl)) ?_
     refine gP (fun hg => qCa call38 rfl (long01_ok _)) ?_
     refine br (fun h4 => ?_) (fun h4 => ?_)
     ·exact rx1 rfl (Sub.bool (by exact or2 h1 (or2 (by simpa [greatFact2] using h2) (or1 (any_T hx h4)))))
     ·refine sd (w64 (by omega)) ?_
      exact nx ⟨pre ++ [x], rest, by simp [hx], any_S hp h4⟩ (by simp) (Le.mk rfl (.s rfl rfl (.s rfl rfl (.cons rfl (Sub.int (by simp)) rfl .nil))) (.cons rfl rfl .nil))
end Go.T
namespace Go.T
open Go
theorem stripNeg_F {s : Str} (h : ¬ (0 < s.length ∧ (s.headD 0).toNat = 45)) : stripNeg s = (s, false) := by
 cases s with
 | nil => rfl
 | cons c r =>
  have h' : c ≠ 45 := by
   rintro rfl; simp at h
  unfold stripNeg
  split
  ·rename_i heq; simp at heq; exact absurd heq.1 h'
  ·rfl
theorem dropZ_T {s : Str} (h : 0 < s.length) (h' : (s.headD 0).toNat = 48) : dropZ s = dropZ (s.drop 1) := by
 cases s with
 | nil => simp at h
 | cons c r =>
  have : c = 48 := UInt8.toNat_inj.1 (by simpa using h')
  subst this; simp [dropZ]
theorem dropZ_F {s : Str} (h : ¬ (0 < s.length ∧ (s.headD 0).toNat = 48)) : dropZ s = s := by
 cases s with
 | nil => rfl
 | cons c r =>
  have h' : c ≠ 48 := by
   rintro rfl; simp at h
  unfold dropZ
  split
  ·rename_i heq; simp at heq; exact absurd heq.1 h'
  ·rfl
theorem dropZ_len (s : Str) : (dropZ s).length ≤ s.length := by
 induction s with
 | nil => simp [dropZ]
 | cons c r ih =>
  unfold dropZ
  split
  ·rename_i heq; simp at heq; rw [← heq.2]; simp; omega
  ·exact Nat.le_refl _
theorem stripNeg_len (s : Str) : (stripNeg s).1.length ≤ s.length := by
 unfold stripNeg; split <;> simp
theorem digits_len (s : Str) : (digits s).1.length ≤ s.length := by
 unfold digits
 split
 ·exact Nat.le_trans (dropZ_len _) (stripNeg_len s)
 ·simp
theorem dropZ_all (s : Str) (p : UInt8 → Bool) (h : s.all p = true) : (dropZ s).all p = true := by
 induction s with
 | nil => simpa [dropZ] using h
 | cons c r ih =>
  unfold dropZ
  split
  ·rename_i heq; simp at heq; rw [← heq.2]; exact ih (by simp at h ⊢; exact h.2)
  ·exact h
theorem digits_dig (s : Str) : (digits s).1.all isDig = true := by
 unfold digits
 split
 ·rename_i h; exact dropZ_all _ _ h
 ·rfl
theorem rev_ind {α : Type} {p : List α → Prop} (h0 : p []) (h1 : ∀ l a, p l → p (l ++ [a])) (l : List α) : p l := by
  rw [← List.reverse_reverse l]
  induction l.reverse with
  | nil => simpa
  | cons a l ih => simpa using h1 _ a ih
theorem natVal_snoc (d : Str) (c : UInt8) : natVal (d ++ [c]) = 10 * natVal d + (c.toNat - 48) := by simp [natVal]
theorem natVal_lt : ∀ (d : Str), d.all isDig = true → natVal d < 10 ^ d.length := by
  refine rev_ind (by simp [natVal]) ?_
  intro d c ih h
  simp only [List.all_append, List.all_cons, List.all_nil, Bool.and_true, Bool.and_eq_true] at h
  have := ih h.1
  have hc : c.toNat - 48 ≤ 9 := by have := h.2; simp [isDig] at this; omega
  rw [natVal_snoc, List.length_append, List.length_singleton, Nat.pow_succ]; omega
theorem natVal_small {d : Str} (h : d.all isDig = true) (hl : d.length ≤ 17) : natVal d < 100000000000000000 := by
  have h1 := natVal_lt d h
  have h2 : 10 ^ d.length ≤ 10 ^ 17 := Nat.pow_le_pow_right (by omega) hl
  omega
def natDig (n : Nat) : Str := if h : n = 0 then [] else natDig (n / 10) ++ [UInt8.ofNat (48 + n % 10)]
decreasing_by omega
def ofInt (n : Int) : Str := if n < 0 then 45 :: natDig n.natAbs else natDig n.natAbs
def addS (a b : Str) : Str := ofInt (val a + val b)
theorem natDig_zero : natDig 0 = [] := by rw [natDig]; simp
theorem natDig_step {n : Nat} (h : n ≠ 0) : natDig n = natDig (n / 10) ++ [UInt8.ofNat (48 + n % 10)] := by rw [natDig]; simp [h]
theorem natDig_len (k : Nat) : ∀ n, n < 10 ^ k → (natDig n).length ≤ k := by
  induction k with
  | zero => intro n h; obtain rfl : n = 0 := by omega
            simp [natDig_zero]
  | succ k ih =>
    intro n h
    by_cases e : n = 0
    · subst e; simp [natDig_zero]
    · rw [natDig_step e]
      have := ih (n / 10) (by rw [Nat.pow_succ] at h; omega)
      simp; omega
theorem natDig_dig (n : Nat) : (natDig n).all isDig = true := by
 induction n using Nat.strongRecOn with
 | _ n ih =>
  by_cases e : n = 0
  ·subst e; simp [natDig_zero]
  ·rw [natDig_step e, List.all_append, ih (n / 10) (by omega)]
   have : (48 + n % 10) % 256 = 48 + n % 10 := Nat.mod_eq_of_lt (by omega)
   simp [isDig, this]; omega
theorem natVal_natDig (n : Nat) : natVal (natDig n) = n := by
 induction n using Nat.strongRecOn with
 | _ n ih =>
  by_cases e : n = 0
  ·subst e; simp [natDig_zero, natVal]
  ·rw [natDig_step e, natVal_snoc, ih (n / 10) (by omega)]
   have : (48 + n % 10) % 256 = 48 + n % 10 := Nat.mod_eq_of_lt (by omega)
   simp [this]; omega
theorem natDig_nil {n : Nat} : natDig n = [] ↔ n = 0 := by
 constructor
 ·intro h
  by_cases e : n = 0
  ·exact e
  ·rw [natDig_step e] at h; simp at h
 ·rintro rfl; exact natDig_zero
theorem natDig_head (n : Nat) : ∀ c r, natDig n = c :: r → c.toNat ≠ 48 := by
 induction n using Nat.strongRecOn with
 | _ n ih =>
  intro c r h
  by_cases e : n = 0
  ·subst e; simp [natDig_zero] at h
  ·rw [natDig_step e] at h
   by_cases e2 : n / 10 = 0
   ·rw [e2, natDig_zero] at h
    simp only [List.nil_append, List.cons.injEq] at h
    rw [← h.1]
    have : (48 + n % 10) % 256 = 48 + n % 10 := Nat.mod_eq_of_lt (by omega)
    simp [this]; omega
   ·cases hd : natDig (n / 10) with
    | nil => exact absurd (natDig_nil.1 hd) e2
    | cons c' r' =>
     rw [hd] at h
     simp only [List.cons_append, List.cons.injEq] at h
     rw [← h.1]
     exact ih (n / 10) (by omega) c' r' hd
theorem dropZ_natDig (n : Nat) : dropZ (natDig n) = natDig n := by
 apply dropZ_F
 intro ⟨h1, h2⟩
 cases hd : natDig n with
 | nil => simp [hd] at h1
 | cons c r => rw [hd] at h2; exact natDig_head n c r hd (by simpa using h2)
theorem stripNeg_dig {s : Str} (h : s.all isDig = true) : stripNeg s = (s, false) := by
 apply stripNeg_F
 intro ⟨h1, h2⟩
 cases s with
 | nil => simp at h1
 | cons c r =>
  simp only [List.all_cons, Bool.and_eq_true, isDig, decide_eq_true_eq] at h
  simp at h2; omega
theorem digits_ofInt (n : Int) : digits (ofInt n) = (natDig n.natAbs, decide (n < 0)) := by
 unfold ofInt
 split
 ·rename_i h
  have : stripNeg (45 :: natDig n.natAbs) = (natDig n.natAbs, true) := rfl
  unfold digits
  rw [this]
  simp only [natDig_dig, if_true, dropZ_natDig, h, decide_true, Bool.true_and]
  have : natDig n.natAbs ≠ [] := by rw [ne_eq, natDig_nil]; omega
  simp [this]
 ·rename_i h
  unfold digits
  rw [stripNeg_dig (natDig_dig _)]
  simp [natDig_dig, dropZ_natDig, h]
theorem val_ofInt (n : Int) : val (ofInt n) = n := by
 unfold val
 rw [digits_ofInt]
 simp only [natVal_natDig, decide_eq_true_eq]
 split <;> omega
theorem ofInt_nil {n : Int} : ofInt n = [] ↔ n = 0 := by
 unfold ofInt
 split
 ·simp; omega
 ·rw [natDig_nil]; omega
theorem ofInt_zero : ofInt 0 = [] := ofInt_nil.2 rfl
theorem idx_last {α β : Type} [Inhabited α] {l pre rest : List α} {n : Int} (f : α → β) (h : l = pre ++ rest) (h0 : 0 < pre.length) (hn : n = (pre.length : Int) - 1) : (l.map f)[n.toNat]? = some (f (pre.getLastD default)) := by
 subst h; subst hn
 have e : ((pre.length : Int) - 1).toNat = pre.length - 1 := by omega
 rw [e, List.getElem?_map, List.getElem?_append_left (by omega)]
 have : pre[pre.length - 1]? = some (pre.getLastD default) := by
  rw [← List.getLast?_eq_getElem?]
  cases pre with
  | nil => simp at h0
  | cons a l => simp [List.getLast?_cons, List.getLastD_cons, List.getLastD_eq_getLast?]
 rw [this]; rfl
def opposite (e : Entry) : Entry := { e with lines := e.lines.map fun l => { l with amount := negS l.amount } }
@[reducible] def encMag (m : List Nat) : List (List D) := m.map fun (n : Nat) => [.raw (.int .u64 (n : Int))]
@[reducible] def sMag (m : List Nat) : D := .snap 1 false (encMag m)
@[reducible] def encNum (neg : Bool) (m : List Nat) : List D := [.b neg, sMag m]
theorem idx_end {α β : Type} (f : α → β) (i : List α) (x : α) {n : Int} (hn : n = ((i ++ [x]).map f).length - 1) : ((i ++ [x]).map f)[n.toNat]? = some (f x) := by
  have : n.toNat = i.length := by rw [hn]; simp
  rw [this]; simp
theorem opI {env : Env} {x : Operand} {k : IntKind} {n m : Int} (h : env.op x = some (.raw (.int k n))) (e : n = m) : env.op x = some (.raw (.int k m)) := by rw [h, e]
def gB : Nat := 1000000000
def mVa : List Nat → Nat
  | [] => 0
  | x :: r => x + gB * mVa r
def magOK (m : List Nat) : Prop := ∀ x ∈ m, x < gB
def cutM (m : List Nat) : List Nat := (m.reverse.dropWhile (· == 0)).reverse
theorem snoc_cases {α : Type} (l : List α) : l = [] ∨ ∃ i x, l = i ++ [x] := by
  rcases List.eq_nil_or_concat l with h | ⟨i, x, h⟩
  · exact .inl h
  · exact .inr ⟨i, x, by rw [h, List.concat_eq_append]⟩
theorem cutM_zero (i : List Nat) : cutM (i ++ [0]) = cutM i := by simp [cutM]
theorem cutM_pos (i : List Nat) {x : Nat} (h : x ≠ 0) : cutM (i ++ [x]) = i ++ [x] := by simp [cutM, h]
theorem magVal_append (a b : List Nat) : mVa (a ++ b) = mVa a + gB ^ a.length * mVa b := by
  induction a with
  | nil => simp [mVa]
  | cons x a ih => simp only [List.cons_append, mVa, ih, List.length_cons, Nat.pow_succ]; rw [Nat.mul_add, Nat.mul_comm (gB ^ a.length) gB, Nat.mul_assoc]; omega
theorem magVal_lt {m : List Nat} (h : magOK m) : mVa m < gB ^ m.length := by
  induction m with
  | nil => simp [mVa]
  | cons x m ih =>
    have h1 := ih (fun y hy => h y (List.mem_cons_of_mem _ hy))
    have h2 := h x List.mem_cons_self
    simp only [mVa, List.length_cons, Nat.pow_succ]
    have : gB * (mVa m + 1) ≤ gB * gB ^ m.length := Nat.mul_le_mul_left _ h1
    rw [Nat.mul_comm (gB ^ m.length)]
    rw [Nat.mul_add] at this
    omega
theorem cutM_val (m : List Nat) : mVa (cutM m) = mVa m := by
  induction m using rev_ind with
  | h0 => rfl
  | h1 i x ih =>
    by_cases h : x = 0
    · subst h; rw [cutM_zero, ih, magVal_append]; simp [mVa]
    · rw [cutM_pos i h]
theorem cutM_mem (m : List Nat) : ∀ x ∈ cutM m, x ∈ m := by
  intro x hx
  unfold cutM at hx
  rw [List.mem_reverse] at hx
  have := (List.dropWhile_sublist _).mem hx
  simpa using this
theorem cutM_ok {m : List Nat} (h : magOK m) : magOK (cutM m) := fun x hx => h x (cutM_mem m x hx)
theorem cutM_len (m : List Nat) : (cutM m).length ≤ m.length := by
  unfold cutM
  rw [List.length_reverse]
  exact Nat.le_trans (List.dropWhile_sublist _).length_le (by simp)
def groupsOf (s : Str) : List Nat := if h : s.length = 0 then [] else natVal (s.drop (s.length - 9)) :: groupsOf (s.take (s.length - 9))
termination_by s.length
decreasing_by simp; omega
theorem groupsOf_nil : groupsOf [] = [] := by rw [groupsOf]; simp
theorem groupsOf_step {s : Str} (h : s.length ≠ 0) : groupsOf s = natVal (s.drop (s.length - 9)) :: groupsOf (s.take (s.length - 9)) := by rw [groupsOf, dif_neg h]
theorem natVal_append (a b : Str) : natVal (a ++ b) = natVal a * 10 ^ b.length + natVal b := by
  induction b using rev_ind with
  | h0 => simp [natVal]
  | h1 i x ih => rw [← List.append_assoc, natVal_snoc, ih, natVal_snoc, List.length_append, List.length_singleton, Nat.pow_succ, Nat.mul_add, ← Nat.mul_assoc]; have : 10 * natVal a * 10 ^ i.length = natVal a * (10 ^ i.length * 10) := by rw [Nat.mul_comm 10 (natVal a), Nat.mul_assoc, Nat.mul_comm 10]
                 omega
theorem groupsOf_len (s : Str) : (groupsOf s).length ≤ s.length := by
  induction h : s.length using Nat.strongRecOn generalizing s with
  | _ n ih =>
    by_cases h0 : s.length = 0
    · have : s = [] := List.length_eq_zero_iff.1 h0
      subst this; rw [groupsOf_nil]; simp
    · rw [groupsOf_step h0, List.length_cons]
      have := ih (s.take (s.length - 9)).length (by simp; omega) (s.take (s.length - 9)) rfl
      simp at this ⊢; omega
theorem groupsOf_spec (s : Str) (hd : s.all isDig = true) : magOK (groupsOf s) ∧ mVa (groupsOf s) = natVal s := by
  induction h : s.length using Nat.strongRecOn generalizing s with
  | _ n ih =>
    by_cases h0 : s.length = 0
    · have : s = [] := List.length_eq_zero_iff.1 h0
      subst this; rw [groupsOf_nil]; exact ⟨fun x hx => absurd hx (by simp), rfl⟩
    · rw [groupsOf_step h0]
      have hs : s = s.take (s.length - 9) ++ s.drop (s.length - 9) := (List.take_append_drop ..).symm
      have hd2 : (s.take (s.length - 9)).all isDig = true ∧ (s.drop (s.length - 9)).all isDig = true := by
        rw [hs, List.all_append, Bool.and_eq_true] at hd; exact hd
      obtain ⟨h1, h2⟩ := ih (s.take (s.length - 9)).length (by simp; omega) (s.take (s.length - 9)) hd2.1 rfl
      have hl : (s.drop (s.length - 9)).length ≤ 9 := by simp; omega
      have h3 := natVal_lt _ hd2.2
      have h4 : 10 ^ (s.drop (s.length - 9)).length ≤ 10 ^ 9 := Nat.pow_le_pow_right (by omega) hl
      have h5 : natVal (s.drop (s.length - 9)) < gB := by unfold gB; omega
      refine ⟨fun x hx => ?_, ?_⟩
      · rcases List.mem_cons.1 hx with rfl | hx
        · exact h5
        · exact h1 x hx
      · simp only [mVa, h2]
        conv => rhs; rw [hs, natVal_append]
        by_cases h9 : s.length ≤ 9
        · have : s.length - 9 = 0 := by omega
          rw [this]; simp [natVal]
        · have : (s.drop (s.length - 9)).length = 9 := by simp; omega
          rw [this, Nat.mul_comm (natVal (s.take (s.length - 9)))]; unfold gB; omega
end Go.T
namespace Go.Proofs
open Go.Shelf
def Tryz.lays161_ren : Go.Shelf.Ren := ⟨fun | 161 => 325 | 231 => 226 | 227 => 228 | 233 => 229 | 235 => 231 | 228 => 273 | 197 => 263 | 151 => 274 | 260 => 299 | 152 => 315 | 137 => 341 | 119 => 342 | 224 => 302 | 225 => 301 | 217 => 300 | 266 => 336 | n => n, fun | 9 => 9 | 4 => 4 | 3 => 3 | 5 => 5 | 117 => 232 | 116 => 231 | 0 => 0 | 124 => 235 | 105 => 270 | 21 => 21 | 119 => 318 | 46 => 142 | 139 => 321 | 138 => 320 | n => n, fun | 3 => 1 | 4 => 2 | n => n⟩
theorem Tryz.lays161 : Go.Proofs.Lays.n161 Tryz.prog Tryz.lays161_ren := {
 mixed := by kernel_rfl
 f119 := Tryz.func342.trans (congrArg some (by kernel_rfl))
 f137 := Tryz.func341.trans (congrArg some (by kernel_rfl))
 f151 := Tryz.func274.trans (congrArg some (by kernel_rfl))
 f152 := Tryz.func315.trans (congrArg some (by kernel_rfl))
 f161 := Tryz.func325.trans (congrArg some (by kernel_rfl))
 f197 := Tryz.func263.trans (congrArg some (by kernel_rfl))
 f217 := Tryz.func300.trans (congrArg some (by kernel_rfl))
 f224 := Tryz.func302.trans (congrArg some (by kernel_rfl))
 f225 := Tryz.func301.trans (congrArg some (by kernel_rfl))
 f227 := Tryz.func228.trans (congrArg some (by kernel_rfl))
 f228 := Tryz.func273.trans (congrArg some (by kernel_rfl))
 f231 := Tryz.func226.trans (congrArg some (by kernel_rfl))
 f233 := Tryz.func229.trans (congrArg some (by kernel_rfl))
 f235 := Tryz.func231.trans (congrArg some (by kernel_rfl))
 f260 := Tryz.func299.trans (congrArg some (by kernel_rfl))
 f266 := Tryz.func336.trans (congrArg some (by kernel_rfl))
 t0 := Tryz.underlying0
 a0 := Tryz.isAgg0
 z0 := Tryz.sizeOf0
 v0 := Tryz.zeroValue0
 t3 := Tryz.underlying3
 a3 := Tryz.isAgg3
 z3 := Tryz.sizeOf3
 v3 := Tryz.zeroValue3
 t4 := Tryz.underlying4
 a4 := Tryz.isAgg4
 z4 := Tryz.sizeOf4
 v4 := Tryz.zeroValue4
 t5 := Tryz.underlying5
 a5 := Tryz.isAgg5
 z5 := Tryz.sizeOf5
 v5 := Tryz.zeroValue5
 t9 := Tryz.underlying9
 a9 := Tryz.isAgg9
 z9 := Tryz.sizeOf9
 v9 := Tryz.zeroValue9
 t21 := Tryz.underlying21
 a21 := Tryz.isAgg21
 z21 := Tryz.sizeOf21
 v21 := Tryz.zeroValue21
 t46 := Tryz.underlying142
 a46 := Tryz.isAgg142
 z46 := Tryz.sizeOf142
 v46 := Tryz.zeroValue142
 t105 := Tryz.underlying270
 a105 := Tryz.isAgg270
 z105 := Tryz.sizeOf270
 v105 := Tryz.zeroValue270
 t116 := Tryz.underlying231
 a116 := Tryz.isAgg231
 z116 := Tryz.sizeOf231
 t117 := Tryz.underlying232
 a117 := Tryz.isAgg232
 z117 := Tryz.sizeOf232
 v117 := Tryz.zeroValue232
 t119 := Tryz.underlying318
 a119 := Tryz.isAgg318
 z119 := Tryz.sizeOf318
 t124 := Tryz.underlying235
 a124 := Tryz.isAgg235
 z124 := Tryz.sizeOf235
 v124 := Tryz.zeroValue235
 t138 := Tryz.underlying320
 a138 := Tryz.isAgg320
 z138 := Tryz.sizeOf320
 v138 := Tryz.zeroValue320
 t139 := Tryz.underlying321
 a139 := Tryz.isAgg321
 z139 := Tryz.sizeOf321
 v139 := Tryz.zeroValue321
 g3 := by kernel_rfl
 g4 := by kernel_rfl }
open Go.RowKit in
theorem Tryz.strings_TrimLeft_one (s : ByteArray) (c : UInt8) (hc : c.toNat < 128) (w : World) :
  Calls Tryz.prog 325 #[.string s, .string ⟨#[c]⟩] w fun e w' => e = .returned (.string ⟨(Lib.trimLeftB s.data.toList c).toArray⟩) ∧ w' = w := Any.strings_TrimLeft_one Tryz.lays161 s c hc w
def Tryz.lays160_ren : Go.Shelf.Ren := ⟨fun | 160 => 180 | 232 => 227 | 231 => 226 | 227 => 228 | 234 => 230 | 233 => 229 | 236 => 232 | 235 => 231 | 228 => 273 | 271 => 275 | 151 => 274 | 197 => 263 | 120 => 316 | 152 => 315 | 260 => 299 | 137 => 341 | 119 => 342 | 224 => 302 | 225 => 301 | 217 => 300 | 266 => 336 | n => n, fun | 9 => 9 | 4 => 4 | 3 => 3 | 5 => 5 | 117 => 232 | 116 => 231 | 0 => 0 | 124 => 235 | 21 => 21 | 105 => 270 | 46 => 142 | 119 => 318 | 139 => 321 | 138 => 320 | n => n, fun | 3 => 1 | 4 => 2 | n => n⟩
theorem Tryz.lays160 : Go.Proofs.Lays.n160 Tryz.prog Tryz.lays160_ren := {
 mixed := by kernel_rfl
 f119 := Tryz.func342.trans (congrArg some (by kernel_rfl))
 f120 := Tryz.func316.trans (congrArg some (by kernel_rfl))
 f137 := Tryz.func341.trans (congrArg some (by kernel_rfl))
 f151 := Tryz.func274.trans (congrArg some (by kernel_rfl))
 f152 := Tryz.func315.trans (congrArg some (by kernel_rfl))
 f160 := Tryz.func180.trans (congrArg some (by kernel_rfl))
 f197 := Tryz.func263.trans (congrArg some (by kernel_rfl))
 f217 := Tryz.func300.trans (congrArg some (by kernel_rfl))
 f224 := Tryz.func302.trans (congrArg some (by kernel_rfl))
 f225 := Tryz.func301.trans (congrArg some (by kernel_rfl))
 f227 := Tryz.func228.trans (congrArg some (by kernel_rfl))
 f228 := Tryz.func273.trans (congrArg some (by kernel_rfl))
 f231 := Tryz.func226.trans (congrArg some (by kernel_rfl))
 f232 := Tryz.func227.trans (congrArg some (by kernel_rfl))
 f233 := Tryz.func229.trans (congrArg some (by kernel_rfl))
 f234 := Tryz.func230.trans (congrArg some (by kernel_rfl))
 f235 := Tryz.func231.trans (congrArg some (by kernel_rfl))
 f236 := Tryz.func232.trans (congrArg some (by kernel_rfl))
 f260 := Tryz.func299.trans (congrArg some (by kernel_rfl))
 f266 := Tryz.func336.trans (congrArg some (by kernel_rfl))
 f271 := Tryz.func275.trans (congrArg some (by kernel_rfl))
 t0 := Tryz.underlying0
 a0 := Tryz.isAgg0
 z0 := Tryz.sizeOf0
 v0 := Tryz.zeroValue0
 t3 := Tryz.underlying3
 a3 := Tryz.isAgg3
 z3 := Tryz.sizeOf3
 v3 := Tryz.zeroValue3
 t4 := Tryz.underlying4
 a4 := Tryz.isAgg4
 z4 := Tryz.sizeOf4
 v4 := Tryz.zeroValue4
 t5 := Tryz.underlying5
 a5 := Tryz.isAgg5
 z5 := Tryz.sizeOf5
 v5 := Tryz.zeroValue5
 t9 := Tryz.underlying9
 a9 := Tryz.isAgg9
 z9 := Tryz.sizeOf9
 v9 := Tryz.zeroValue9
 t21 := Tryz.underlying21
 a21 := Tryz.isAgg21
 z21 := Tryz.sizeOf21
 v21 := Tryz.zeroValue21
 t46 := Tryz.underlying142
 a46 := Tryz.isAgg142
 z46 := Tryz.sizeOf142
 v46 := Tryz.zeroValue142
 t105 := Tryz.underlying270
 a105 := Tryz.isAgg270
 z105 := Tryz.sizeOf270
 v105 := Tryz.zeroValue270
 t116 := Tryz.underlying231
 a116 := Tryz.isAgg231
 z116 := Tryz.sizeOf231
 t117 := Tryz.underlying232
 a117 := Tryz.isAgg232
 z117 := Tryz.sizeOf232
 v117 := Tryz.zeroValue232
 t119 := Tryz.underlying318
 a119 := Tryz.isAgg318
 z119 := Tryz.sizeOf318
 t124 := Tryz.underlying235
 a124 := Tryz.isAgg235
 z124 := Tryz.sizeOf235
 v124 := Tryz.zeroValue235
 t138 := Tryz.underlying320
 a138 := Tryz.isAgg320
 z138 := Tryz.sizeOf320
 v138 := Tryz.zeroValue320
 t139 := Tryz.underlying321
 a139 := Tryz.isAgg321
 z139 := Tryz.sizeOf321
 v139 := Tryz.zeroValue321
 g3 := by kernel_rfl
 g4 := by kernel_rfl }
def Tryz.lays103_ren : Go.Shelf.Ren := ⟨fun | 103 => 324 | 210 => 349 | 206 => 314 | n => n, fun | 9 => 9 | 4 => 4 | 24 => 161 | 3 => 3 | n => n, fun | n => n⟩
theorem Tryz.lays103 : Go.Proofs.Lays.n103 Tryz.prog Tryz.lays103_ren := {
 mixed := by kernel_rfl
 f103 := Tryz.func324.trans (congrArg some (by kernel_rfl))
 f206 := Tryz.func314.trans (congrArg some (by kernel_rfl))
 f210 := Tryz.func349.trans (congrArg some (by kernel_rfl))
 t3 := Tryz.underlying3
 a3 := Tryz.isAgg3
 z3 := Tryz.sizeOf3
 v3 := Tryz.zeroValue3
 t4 := Tryz.underlying4
 a4 := Tryz.isAgg4
 z4 := Tryz.sizeOf4
 v4 := Tryz.zeroValue4
 t9 := Tryz.underlying9
 a9 := Tryz.isAgg9
 z9 := Tryz.sizeOf9
 v9 := Tryz.zeroValue9
 t24 := Tryz.underlying161
 a24 := Tryz.isAgg161
 z24 := Tryz.sizeOf161
 v24 := Tryz.zeroValue161 }
open Go.RowKit in
theorem Tryz.strings_CutPrefix (s p : ByteArray) (w : World) :
  Calls Tryz.prog 324 #[.string s, .string p] w fun e w' => e = .returned (.tuple #[.string ⟨(Lib.trimPrefix s.data.toList p.data.toList).toArray⟩, .bool (Lib.hasPrefix s.data.toList p.data.toList)]) ∧ w' = w := Any.strings_CutPrefix Tryz.lays103 s p w
def Tryz.lays283_ren : Go.Shelf.Ren := ⟨fun | 283 => 345 | n => n, fun | 3 => 3 | 9 => 9 | 4 => 4 | n => n, fun | n => n⟩
theorem Tryz.lays283 : Go.Proofs.Lays.n283 Tryz.prog Tryz.lays283_ren := {
 mixed := by kernel_rfl
 f283 := Tryz.func345.trans (congrArg some (by kernel_rfl))
 t3 := Tryz.underlying3
 a3 := Tryz.isAgg3
 z3 := Tryz.sizeOf3
 v3 := Tryz.zeroValue3
 t4 := Tryz.underlying4
 a4 := Tryz.isAgg4
 z4 := Tryz.sizeOf4
 v4 := Tryz.zeroValue4
 t9 := Tryz.underlying9
 a9 := Tryz.isAgg9
 z9 := Tryz.sizeOf9
 v9 := Tryz.zeroValue9 }
open Go.Lib in
theorem Tryz.internal_strconv_small (i : Nat) (h : i < 100) (w : World) :
  Calls Tryz.prog 345 #[.int .i64 i] w fun e w' => e = .returned (.string ⟨(Lib.decDigits i).toArray⟩) ∧ w' = w := Any.internal_strconv_small Tryz.lays283 i h w
def Tryz.laysM284_ren : Go.Shelf.Ren := ⟨fun | 284 => 346 | 129 => 158 | 317 => 359 | 318 => 360 | n => n, fun | 53 => 184 | 3 => 3 | 212 => 350 | 0 => 0 | 4 => 4 | 46 => 142 | 5 => 5 | 9 => 9 | n => n, fun | 17 => 5 | n => n⟩
theorem Tryz.laysM284 : Go.Proofs.LaysM.n284 Tryz.prog Tryz.laysM284_ren := {
 mixed := by kernel_rfl
 f129 := Tryz.func158.trans (congrArg some (by kernel_rfl))
 f284 := Tryz.func346.trans (congrArg some (by kernel_rfl))
 f317 := Tryz.func359.trans (congrArg some (by kernel_rfl))
 f318 := Tryz.func360.trans (congrArg some (by kernel_rfl))
 t0 := Tryz.underlying0
 a0 := Tryz.isAgg0
 z0 := Tryz.sizeOf0
 v0 := Tryz.zeroValue0
 t3 := Tryz.underlying3
 a3 := Tryz.isAgg3
 z3 := Tryz.sizeOf3
 v3 := Tryz.zeroValue3
 t4 := Tryz.underlying4
 a4 := Tryz.isAgg4
 z4 := Tryz.sizeOf4
 v4 := Tryz.zeroValue4
 t5 := Tryz.underlying5
 a5 := Tryz.isAgg5
 z5 := Tryz.sizeOf5
 v5 := Tryz.zeroValue5
 t9 := Tryz.underlying9
 a9 := Tryz.isAgg9
 z9 := Tryz.sizeOf9
 v9 := Tryz.zeroValue9
 t46 := Tryz.underlying142
 a46 := Tryz.isAgg142
 z46 := Tryz.sizeOf142
 v46 := Tryz.zeroValue142
 t53 := Tryz.underlying184
 a53 := Tryz.isAgg184
 z53 := Tryz.sizeOf184
 v53 := Tryz.zeroValue184
 t212 := Tryz.underlying350
 a212 := Tryz.isAgg350
 z212 := Tryz.sizeOf350
 v212 := Tryz.zeroValue350
 g17 := by kernel_rfl
 i0 := by kernel_rfl
 i3 := by kernel_rfl
 i4 := by kernel_rfl
 i5 := by kernel_rfl
 i9 := by kernel_rfl
 i46 := by kernel_rfl
 i53 := by kernel_rfl
 i212 := by kernel_rfl
 m17 := by kernel_rfl }
open Go.Lib in
theorem Tryz.internal_strconv_numDigits (u : Nat) (h1 : 1 ≤ u) (h2 : u < 18446744073709551616) (w : World) (htab : Lib.TabIs Tryz.prog w "internal/strconv.uint64pow10" .u64 Lib.pow10Tab) :
  Calls Tryz.prog 346 #[.int .u64 u] w fun e w' => e = .returned (.int .i64 (Lib.nDigits u)) ∧ w' = w := Any.internal_strconv_numDigits Tryz.laysM284 u h1 h2 w htab
def Tryz.lays285_ren : Go.Shelf.Ren := ⟨fun | 285 => 347 | n => n, fun | 37 => 152 | 53 => 184 | 3 => 3 | 4 => 4 | 51 => 182 | 9 => 9 | 5 => 5 | 0 => 0 | n => n, fun | n => n⟩
theorem Tryz.lays285 : Go.Proofs.Lays.n285 Tryz.prog Tryz.lays285_ren := {
 mixed := by kernel_rfl
 f285 := Tryz.func347.trans (congrArg some (by kernel_rfl))
 t0 := Tryz.underlying0
 a0 := Tryz.isAgg0
 z0 := Tryz.sizeOf0
 v0 := Tryz.zeroValue0
 t3 := Tryz.underlying3
 a3 := Tryz.isAgg3
 z3 := Tryz.sizeOf3
 v3 := Tryz.zeroValue3
 t4 := Tryz.underlying4
 a4 := Tryz.isAgg4
 z4 := Tryz.sizeOf4
 v4 := Tryz.zeroValue4
 t5 := Tryz.underlying5
 a5 := Tryz.isAgg5
 z5 := Tryz.sizeOf5
 v5 := Tryz.zeroValue5
 t9 := Tryz.underlying9
 a9 := Tryz.isAgg9
 z9 := Tryz.sizeOf9
 v9 := Tryz.zeroValue9
 t37 := Tryz.underlying152
 a37 := Tryz.isAgg152
 z37 := Tryz.sizeOf152
 v37 := Tryz.zeroValue152
 t51 := Tryz.underlying182
 a51 := Tryz.isAgg182
 z51 := Tryz.sizeOf182
 v51 := Tryz.zeroValue182
 t53 := Tryz.underlying184
 a53 := Tryz.isAgg184
 z53 := Tryz.sizeOf184
 v53 := Tryz.zeroValue184 }
open Go.RowKit Go.Sort Go.Lib in
theorem Tryz.internal_strconv_formatBase10 (blk off cap : Nat) (u : Nat) (d : Array UInt8) (w : World) (hH : Holds (fun (b : UInt8) => Value.int .u8 (b.toNat : Int)) w blk off d) (hu : u < 10 ^ d.size) (hu64 : u < 18446744073709551616) (hsz : d.size < 4611686018427387904) :
  Calls Tryz.prog 347 #[.slice (some ⟨blk, off, none⟩) d.size cap, .int .u64 u] w fun e w' =>
   e = .returned (.tuple #[]) ∧ ∃ (n v' : Nat) (dk : Array UInt8), w' = (putRow (fun (b : UInt8) => Value.int .u8 (b.toNat : Int)) w blk off dk).drewN n ∧ FmtInv d.size u 0 v' dk := Any.internal_strconv_formatBase10 Tryz.lays285 blk off cap u d w hH hu hu64 hsz
def Tryz.laysM171_ren : Go.Shelf.Ren := ⟨fun | 171 => 235 | 243 => 279 | 246 => 322 | 283 => 345 | 284 => 346 | 285 => 347 | 286 => 348 | 129 => 158 | 317 => 359 | 318 => 360 | 319 => 361 | 320 => 362 | 337 => 365 | 338 => 366 | n => n, fun | 3 => 3 | 9 => 9 | 2 => 2 | 4 => 4 | 171 => 333 | 0 => 0 | 53 => 184 | 37 => 152 | 5 => 5 | 173 => 335 | 212 => 350 | 51 => 182 | 20 => 20 | 213 => 351 | 46 => 142 | 232 => 355 | 233 => 356 | n => n, fun | 17 => 5 | 18 => 6 | 19 => 7 | n => n⟩
theorem Tryz.laysM171 : Go.Proofs.LaysM.n171 Tryz.prog Tryz.laysM171_ren := {
 mixed := by kernel_rfl
 f129 := Tryz.func158.trans (congrArg some (by kernel_rfl))
 f171 := Tryz.func235.trans (congrArg some (by kernel_rfl))
 f243 := Tryz.func279.trans (congrArg some (by kernel_rfl))
 f246 := Tryz.func322.trans (congrArg some (by kernel_rfl))
 f283 := Tryz.func345.trans (congrArg some (by kernel_rfl))
 f284 := Tryz.func346.trans (congrArg some (by kernel_rfl))
 f285 := Tryz.func347.trans (congrArg some (by kernel_rfl))
 f286 := Tryz.func348.trans (congrArg some (by kernel_rfl))
 f317 := Tryz.func359.trans (congrArg some (by kernel_rfl))
 f318 := Tryz.func360.trans (congrArg some (by kernel_rfl))
 f319 := Tryz.func361.trans (congrArg some (by kernel_rfl))
 f320 := Tryz.func362.trans (congrArg some (by kernel_rfl))
 f337 := Tryz.func365.trans (congrArg some (by kernel_rfl))
 f338 := Tryz.func366.trans (congrArg some (by kernel_rfl))
 t0 := Tryz.underlying0
 a0 := Tryz.isAgg0
 z0 := Tryz.sizeOf0
 v0 := Tryz.zeroValue0
 t2 := Tryz.underlying2
 a2 := Tryz.isAgg2
 z2 := Tryz.sizeOf2
 v2 := Tryz.zeroValue2
 t3 := Tryz.underlying3
 a3 := Tryz.isAgg3
 z3 := Tryz.sizeOf3
 v3 := Tryz.zeroValue3
 t4 := Tryz.underlying4
 a4 := Tryz.isAgg4
 z4 := Tryz.sizeOf4
 v4 := Tryz.zeroValue4
 t5 := Tryz.underlying5
 a5 := Tryz.isAgg5
 z5 := Tryz.sizeOf5
 v5 := Tryz.zeroValue5
 t9 := Tryz.underlying9
 a9 := Tryz.isAgg9
 z9 := Tryz.sizeOf9
 v9 := Tryz.zeroValue9
 t20 := Tryz.underlying20
 a20 := Tryz.isAgg20
 z20 := Tryz.sizeOf20
 v20 := Tryz.zeroValue20
 t37 := Tryz.underlying152
 a37 := Tryz.isAgg152
 z37 := Tryz.sizeOf152
 v37 := Tryz.zeroValue152
 t46 := Tryz.underlying142
 a46 := Tryz.isAgg142
 z46 := Tryz.sizeOf142
 v46 := Tryz.zeroValue142
 t51 := Tryz.underlying182
 a51 := Tryz.isAgg182
 z51 := Tryz.sizeOf182
 v51 := Tryz.zeroValue182
 t53 := Tryz.underlying184
 a53 := Tryz.isAgg184
 z53 := Tryz.sizeOf184
 v53 := Tryz.zeroValue184
 t171 := Tryz.underlying333
 a171 := Tryz.isAgg333
 z171 := Tryz.sizeOf333
 v171 := Tryz.zeroValue333
 t173 := Tryz.underlying335
 a173 := Tryz.isAgg335
 z173 := Tryz.sizeOf335
 v173 := Tryz.zeroValue335
 t212 := Tryz.underlying350
 a212 := Tryz.isAgg350
 z212 := Tryz.sizeOf350
 v212 := Tryz.zeroValue350
 t213 := Tryz.underlying351
 a213 := Tryz.isAgg351
 z213 := Tryz.sizeOf351
 t232 := Tryz.underlying355
 a232 := Tryz.isAgg355
 z232 := Tryz.sizeOf355
 v232 := Tryz.zeroValue355
 t233 := Tryz.underlying356
 a233 := Tryz.isAgg356
 z233 := Tryz.sizeOf356
 v233 := Tryz.zeroValue356
 g17 := by kernel_rfl
 g18 := by kernel_rfl
 g19 := by kernel_rfl
 i0 := by kernel_rfl
 i2 := by kernel_rfl
 i3 := by kernel_rfl
 i4 := by kernel_rfl
 i5 := by kernel_rfl
 i9 := by kernel_rfl
 i20 := by kernel_rfl
 i37 := by kernel_rfl
 i46 := by kernel_rfl
 i51 := by kernel_rfl
 i53 := by kernel_rfl
 i171 := by kernel_rfl
 i173 := by kernel_rfl
 i212 := by kernel_rfl
 i232 := by kernel_rfl
 i233 := by kernel_rfl
 m17 := by kernel_rfl
 m18 := by kernel_rfl
 m19 := by kernel_rfl }
open Go.RowKit Go.Sort Go.Lib in
theorem Tryz.strconv_Itoa (n : Int) (h0 : -9223372036854775808 ≤ n) (h1 : n ≤ 9223372036854775807) (w : World) (htab : Lib.TabIs Tryz.prog w "internal/strconv.uint64pow10" .u64 Lib.pow10Tab) :
  Calls Tryz.prog 235 #[.int .i64 n] w fun e w' => e = .returned (.string ⟨(Lib.itoa n).toArray⟩) ∧ ∃ k os, w' = grow (w.drewN k) os := Any.strconv_Itoa Tryz.laysM171 n h0 h1 w htab
def Tryz.laysC172_ren : Go.Shelf.Ren := ⟨fun | 172 => 234 | 244 => 277 | 245 => 278 | 247 => 317 | 279 => 318 | 280 => 319 | 281 => 320 | 282 => 321 | 287 => 326 | 316 => 343 | 171 => 235 | 205 => 344 | 321 => 350 | 322 => 351 | 243 => 279 | 246 => 322 | 283 => 345 | 284 => 346 | 285 => 347 | 286 => 348 | 129 => 158 | 317 => 359 | 318 => 360 | 319 => 361 | 320 => 362 | 337 => 365 | 338 => 366 | n => n, fun | 9 => 9 | 3 => 3 | 75 => 239 | 76 => 240 | 4 => 4 | 5 => 5 | 167 => 304 | 37 => 152 | 0 => 0 | 85 => 305 | 2 => 2 | 168 => 307 | 53 => 184 | 175 => 286 | 46 => 142 | 210 => 331 | 127 => 316 | 145 => 348 | 143 => 346 | 21 => 21 | 171 => 333 | 173 => 335 | 212 => 350 | 51 => 182 | 20 => 20 | 213 => 351 | 232 => 355 | 233 => 356 | 80 => 295 | n => n, fun | 15 => 3 | 16 => 4 | 17 => 5 | 18 => 6 | 19 => 7 | n => n⟩
theorem Tryz.laysC172 : Go.Proofs.LaysC.n172 Tryz.prog Tryz.laysC172_ren := {
 mixed := by kernel_rfl
 f129 := Tryz.func158.trans (congrArg some (by kernel_rfl))
 f171 := Tryz.func235.trans (congrArg some (by kernel_rfl))
 f172 := Tryz.func234.trans (congrArg some (by kernel_rfl))
 f205 := Tryz.func344.trans (congrArg some (by kernel_rfl))
 f243 := Tryz.func279.trans (congrArg some (by kernel_rfl))
 f244 := Tryz.func277.trans (congrArg some (by kernel_rfl))
 f245 := Tryz.func278.trans (congrArg some (by kernel_rfl))
 f246 := Tryz.func322.trans (congrArg some (by kernel_rfl))
 f247 := Tryz.func317.trans (congrArg some (by kernel_rfl))
 f279 := Tryz.func318.trans (congrArg some (by kernel_rfl))
 f280 := Tryz.func319.trans (congrArg some (by kernel_rfl))
 f281 := Tryz.func320.trans (congrArg some (by kernel_rfl))
 f282 := Tryz.func321.trans (congrArg some (by kernel_rfl))
 f283 := Tryz.func345.trans (congrArg some (by kernel_rfl))
 f284 := Tryz.func346.trans (congrArg some (by kernel_rfl))
 f285 := Tryz.func347.trans (congrArg some (by kernel_rfl))
 f286 := Tryz.func348.trans (congrArg some (by kernel_rfl))
 f287 := Tryz.func326.trans (congrArg some (by kernel_rfl))
 f316 := Tryz.func343.trans (congrArg some (by kernel_rfl))
 f317 := Tryz.func359.trans (congrArg some (by kernel_rfl))
 f318 := Tryz.func360.trans (congrArg some (by kernel_rfl))
 f319 := Tryz.func361.trans (congrArg some (by kernel_rfl))
 f320 := Tryz.func362.trans (congrArg some (by kernel_rfl))
 f321 := Tryz.func350.trans (congrArg some (by kernel_rfl))
 f322 := Tryz.func351.trans (congrArg some (by kernel_rfl))
 f337 := Tryz.func365.trans (congrArg some (by kernel_rfl))
 f338 := Tryz.func366.trans (congrArg some (by kernel_rfl))
 t0 := Tryz.underlying0
 a0 := Tryz.isAgg0
 z0 := Tryz.sizeOf0
 v0 := Tryz.zeroValue0
 t2 := Tryz.underlying2
 a2 := Tryz.isAgg2
 z2 := Tryz.sizeOf2
 v2 := Tryz.zeroValue2
 t3 := Tryz.underlying3
 a3 := Tryz.isAgg3
 z3 := Tryz.sizeOf3
 v3 := Tryz.zeroValue3
 t4 := Tryz.underlying4
 a4 := Tryz.isAgg4
 z4 := Tryz.sizeOf4
 v4 := Tryz.zeroValue4
 t5 := Tryz.underlying5
 a5 := Tryz.isAgg5
 z5 := Tryz.sizeOf5
 v5 := Tryz.zeroValue5
 t9 := Tryz.underlying9
 a9 := Tryz.isAgg9
 z9 := Tryz.sizeOf9
 v9 := Tryz.zeroValue9
 t20 := Tryz.underlying20
 a20 := Tryz.isAgg20
 z20 := Tryz.sizeOf20
 v20 := Tryz.zeroValue20
 t21 := Tryz.underlying21
 a21 := Tryz.isAgg21
 z21 := Tryz.sizeOf21
 v21 := Tryz.zeroValue21
 t37 := Tryz.underlying152
 a37 := Tryz.isAgg152
 z37 := Tryz.sizeOf152
 v37 := Tryz.zeroValue152
 t46 := Tryz.underlying142
 a46 := Tryz.isAgg142
 z46 := Tryz.sizeOf142
 v46 := Tryz.zeroValue142
 t51 := Tryz.underlying182
 a51 := Tryz.isAgg182
 z51 := Tryz.sizeOf182
 v51 := Tryz.zeroValue182
 t53 := Tryz.underlying184
 a53 := Tryz.isAgg184
 z53 := Tryz.sizeOf184
 v53 := Tryz.zeroValue184
 t75 := Tryz.underlying239
 a75 := Tryz.isAgg239
 z75 := Tryz.sizeOf239
 v75 := Tryz.zeroValue239
 t76 := Tryz.underlying240
 a76 := Tryz.isAgg240
 z76 := Tryz.sizeOf240
 v76 := Tryz.zeroValue240
 t85 := Tryz.underlying305
 a85 := Tryz.isAgg305
 z85 := Tryz.sizeOf305
 v85 := Tryz.zeroValue305
 t127 := Tryz.underlying316
 a127 := Tryz.isAgg316
 z127 := Tryz.sizeOf316
 v127 := Tryz.zeroValue316
 t143 := Tryz.underlying346
 a143 := Tryz.isAgg346
 z143 := Tryz.sizeOf346
 v143 := Tryz.zeroValue346
 t145 := Tryz.underlying348
 a145 := Tryz.isAgg348
 z145 := Tryz.sizeOf348
 v145 := Tryz.zeroValue348
 t167 := Tryz.underlying304
 a167 := Tryz.isAgg304
 z167 := Tryz.sizeOf304
 v167 := Tryz.zeroValue304
 t168 := Tryz.underlying307
 a168 := Tryz.isAgg307
 z168 := Tryz.sizeOf307
 v168 := Tryz.zeroValue307
 t171 := Tryz.underlying333
 a171 := Tryz.isAgg333
 z171 := Tryz.sizeOf333
 v171 := Tryz.zeroValue333
 t173 := Tryz.underlying335
 a173 := Tryz.isAgg335
 z173 := Tryz.sizeOf335
 v173 := Tryz.zeroValue335
 t175 := Tryz.underlying286
 a175 := Tryz.isAgg286
 z175 := Tryz.sizeOf286
 v175 := Tryz.zeroValue286
 t210 := Tryz.underlying331
 a210 := Tryz.isAgg331
 z210 := Tryz.sizeOf331
 v210 := Tryz.zeroValue331
 t212 := Tryz.underlying350
 a212 := Tryz.isAgg350
 z212 := Tryz.sizeOf350
 v212 := Tryz.zeroValue350
 t213 := Tryz.underlying351
 a213 := Tryz.isAgg351
 z213 := Tryz.sizeOf351
 t232 := Tryz.underlying355
 a232 := Tryz.isAgg355
 z232 := Tryz.sizeOf355
 v232 := Tryz.zeroValue355
 t233 := Tryz.underlying356
 a233 := Tryz.isAgg356
 z233 := Tryz.sizeOf356
 v233 := Tryz.zeroValue356
 g15 := by kernel_rfl
 g16 := by kernel_rfl
 g17 := by kernel_rfl
 g18 := by kernel_rfl
 g19 := by kernel_rfl
 t80 := Tryz.underlying295
 a80 := Tryz.isAgg295
 z80 := Tryz.sizeOf295
 v80 := Tryz.zeroValue295
 i0 := by kernel_rfl
 i2 := by kernel_rfl
 i3 := by kernel_rfl
 i4 := by kernel_rfl
 i5 := by kernel_rfl
 i9 := by kernel_rfl
 i20 := by kernel_rfl
 i21 := by kernel_rfl
 i37 := by kernel_rfl
 i46 := by kernel_rfl
 i51 := by kernel_rfl
 i53 := by kernel_rfl
 i75 := by kernel_rfl
 i76 := by kernel_rfl
 i80 := by kernel_rfl
 i85 := by kernel_rfl
 i127 := by kernel_rfl
 i143 := by kernel_rfl
 i145 := by kernel_rfl
 i167 := by kernel_rfl
 i168 := by kernel_rfl
 i171 := by kernel_rfl
 i173 := by kernel_rfl
 i175 := by kernel_rfl
 i210 := by kernel_rfl
 i212 := by kernel_rfl
 i232 := by kernel_rfl
 i233 := by kernel_rfl
 m15 := by kernel_rfl
 m16 := by kernel_rfl
 m17 := by kernel_rfl
 m18 := by kernel_rfl
 m19 := by kernel_rfl
 c0 := by kernel_rfl
 c2 := by kernel_rfl
 c3 := by kernel_rfl
 c4 := by kernel_rfl
 c5 := by kernel_rfl
 c9 := by kernel_rfl
 c20 := by kernel_rfl
 c21 := by kernel_rfl
 c37 := by kernel_rfl
 c46 := by kernel_rfl
 c51 := by kernel_rfl
 c53 := by kernel_rfl
 c75 := by kernel_rfl
 c76 := by kernel_rfl
 c80 := by kernel_rfl
 c85 := by kernel_rfl
 c127 := by kernel_rfl
 c143 := by kernel_rfl
 c145 := by kernel_rfl
 c167 := by kernel_rfl
 c168 := by kernel_rfl
 c171 := by kernel_rfl
 c173 := by kernel_rfl
 c175 := by kernel_rfl
 c210 := by kernel_rfl
 c212 := by kernel_rfl
 c213 := by kernel_rfl
 c232 := by kernel_rfl
 c233 := by kernel_rfl }
open Go.RowKit in
theorem Tryz.strconv_Atoi_ok (s : ByteArray) (hmax : s.size ≤ 9223372036854775806) (v : Int) (h : Lib.atoiAll s.data.toList = .ok v) (w : World) :
  Calls Tryz.prog 234 #[.string s] w fun e w' => e = .returned (.tuple #[.int .i64 v, .nilIface]) ∧ (w' = w ∨ ∃ t, w' = Lib.bytesWorld w 5 t) := Any.strconv_Atoi_ok Tryz.laysC172 s hmax v h w
open Go.RowKit in
theorem Tryz.strconv_Atoi_range (s : ByteArray) (hlim : s.size ≤ 281474976710656) (h : Lib.atoiAll s.data.toList = .range) (ev : Value) (w : World) (hv : w.cell? ⟨4, 0, none⟩ = some ev) (hev : ev = .nilIface ∨ ∃ te pe, ev = .iface te pe) :
  Calls Tryz.prog 234 #[.string s] w fun e w' => ∃ N, e = .returned (.tuple #[.int .i64 (Lib.atoiSat s.data.toList), .iface 307 (.pointer (some ⟨N, 0, none⟩))]) ∧ w.heap.size ≤ N ∧ w'.heap[N]? = some (.cells #[.string ⟨#[65, 116, 111, 105]⟩, .string s, ev] 331 (0, 0)) ∧ Below w.heap.size w w' := Any.strconv_Atoi_range Tryz.laysC172 s hlim h ev w hv hev
def Tryz.laysPu14_ren : Go.Shelf.Ren := ⟨fun | 14 => 283 | 16 => 326 | 17 => 278 | 19 => 350 | 20 => 351 | 21 => 318 | 22 => 319 | 23 => 320 | 24 => 321 | 25 => 343 | 27 => 235 | 26 => 344 | 28 => 279 | 29 => 322 | 30 => 345 | 31 => 346 | 32 => 347 | 33 => 348 | 35 => 158 | 34 => 359 | 36 => 360 | 37 => 361 | 38 => 362 | 39 => 365 | 40 => 366 | n => n, fun | 9 => 9 | 3 => 3 | 22 => 184 | 24 => 239 | 25 => 286 | 4 => 4 | 34 => 304 | 5 => 5 | 36 => 142 | 37 => 152 | 0 => 0 | 39 => 307 | 21 => 21 | 44 => 331 | 47 => 316 | 50 => 348 | 48 => 346 | 2 => 2 | 52 => 333 | 55 => 335 | 59 => 350 | 60 => 182 | 20 => 20 | 61 => 351 | 65 => 355 | 66 => 356 | 67 => 295 | n => n, fun | 0 => 3 | 1 => 4 | 2 => 5 | 3 => 6 | 4 => 7 | n => n⟩
theorem Tryz.laysPu14 : Go.Proofs.LaysPu.n14 Tryz.prog Tryz.laysPu14_ren := {
 mixed := by kernel_rfl
 f14 := Tryz.func283.trans (congrArg some (by kernel_rfl))
 f16 := Tryz.func326.trans (congrArg some (by kernel_rfl))
 f17 := Tryz.func278.trans (congrArg some (by kernel_rfl))
 f19 := Tryz.func350.trans (congrArg some (by kernel_rfl))
 f20 := Tryz.func351.trans (congrArg some (by kernel_rfl))
 f21 := Tryz.func318.trans (congrArg some (by kernel_rfl))
 f22 := Tryz.func319.trans (congrArg some (by kernel_rfl))
 f23 := Tryz.func320.trans (congrArg some (by kernel_rfl))
 f24 := Tryz.func321.trans (congrArg some (by kernel_rfl))
 f25 := Tryz.func343.trans (congrArg some (by kernel_rfl))
 f26 := Tryz.func344.trans (congrArg some (by kernel_rfl))
 f27 := Tryz.func235.trans (congrArg some (by kernel_rfl))
 f28 := Tryz.func279.trans (congrArg some (by kernel_rfl))
 f29 := Tryz.func322.trans (congrArg some (by kernel_rfl))
 f30 := Tryz.func345.trans (congrArg some (by kernel_rfl))
 f31 := Tryz.func346.trans (congrArg some (by kernel_rfl))
 f32 := Tryz.func347.trans (congrArg some (by kernel_rfl))
 f33 := Tryz.func348.trans (congrArg some (by kernel_rfl))
 f34 := Tryz.func359.trans (congrArg some (by kernel_rfl))
 f35 := Tryz.func158.trans (congrArg some (by kernel_rfl))
 f36 := Tryz.func360.trans (congrArg some (by kernel_rfl))
 f37 := Tryz.func361.trans (congrArg some (by kernel_rfl))
 f38 := Tryz.func362.trans (congrArg some (by kernel_rfl))
 f39 := Tryz.func365.trans (congrArg some (by kernel_rfl))
 f40 := Tryz.func366.trans (congrArg some (by kernel_rfl))
 t0 := Tryz.underlying0
 a0 := Tryz.isAgg0
 z0 := Tryz.sizeOf0
 v0 := Tryz.zeroValue0
 i0 := by kernel_rfl
 t2 := Tryz.underlying2
 a2 := Tryz.isAgg2
 z2 := Tryz.sizeOf2
 v2 := Tryz.zeroValue2
 i2 := by kernel_rfl
 t3 := Tryz.underlying3
 a3 := Tryz.isAgg3
 z3 := Tryz.sizeOf3
 v3 := Tryz.zeroValue3
 i3 := by kernel_rfl
 t4 := Tryz.underlying4
 a4 := Tryz.isAgg4
 z4 := Tryz.sizeOf4
 v4 := Tryz.zeroValue4
 i4 := by kernel_rfl
 t5 := Tryz.underlying5
 a5 := Tryz.isAgg5
 z5 := Tryz.sizeOf5
 v5 := Tryz.zeroValue5
 i5 := by kernel_rfl
 t9 := Tryz.underlying9
 a9 := Tryz.isAgg9
 z9 := Tryz.sizeOf9
 v9 := Tryz.zeroValue9
 i9 := by kernel_rfl
 t20 := Tryz.underlying20
 a20 := Tryz.isAgg20
 z20 := Tryz.sizeOf20
 v20 := Tryz.zeroValue20
 i20 := by kernel_rfl
 t21 := Tryz.underlying21
 a21 := Tryz.isAgg21
 z21 := Tryz.sizeOf21
 v21 := Tryz.zeroValue21
 i21 := by kernel_rfl
 t22 := Tryz.underlying184
 a22 := Tryz.isAgg184
 z22 := Tryz.sizeOf184
 v22 := Tryz.zeroValue184
 i22 := by kernel_rfl
 t24 := Tryz.underlying239
 a24 := Tryz.isAgg239
 z24 := Tryz.sizeOf239
 v24 := Tryz.zeroValue239
 i24 := by kernel_rfl
 t25 := Tryz.underlying286
 a25 := Tryz.isAgg286
 z25 := Tryz.sizeOf286
 v25 := Tryz.zeroValue286
 i25 := by kernel_rfl
 t34 := Tryz.underlying304
 a34 := Tryz.isAgg304
 z34 := Tryz.sizeOf304
 v34 := Tryz.zeroValue304
 i34 := by kernel_rfl
 c34 := by kernel_rfl
 t36 := Tryz.underlying142
 a36 := Tryz.isAgg142
 z36 := Tryz.sizeOf142
 v36 := Tryz.zeroValue142
 i36 := by kernel_rfl
 t37 := Tryz.underlying152
 a37 := Tryz.isAgg152
 z37 := Tryz.sizeOf152
 v37 := Tryz.zeroValue152
 i37 := by kernel_rfl
 t39 := Tryz.underlying307
 a39 := Tryz.isAgg307
 z39 := Tryz.sizeOf307
 v39 := Tryz.zeroValue307
 i39 := by kernel_rfl
 t44 := Tryz.underlying331
 a44 := Tryz.isAgg331
 z44 := Tryz.sizeOf331
 v44 := Tryz.zeroValue331
 i44 := by kernel_rfl
 t47 := Tryz.underlying316
 a47 := Tryz.isAgg316
 z47 := Tryz.sizeOf316
 v47 := Tryz.zeroValue316
 i47 := by kernel_rfl
 t48 := Tryz.underlying346
 a48 := Tryz.isAgg346
 z48 := Tryz.sizeOf346
 v48 := Tryz.zeroValue346
 i48 := by kernel_rfl
 t50 := Tryz.underlying348
 a50 := Tryz.isAgg348
 z50 := Tryz.sizeOf348
 v50 := Tryz.zeroValue348
 i50 := by kernel_rfl
 t52 := Tryz.underlying333
 a52 := Tryz.isAgg333
 z52 := Tryz.sizeOf333
 v52 := Tryz.zeroValue333
 i52 := by kernel_rfl
 t55 := Tryz.underlying335
 a55 := Tryz.isAgg335
 z55 := Tryz.sizeOf335
 v55 := Tryz.zeroValue335
 i55 := by kernel_rfl
 t59 := Tryz.underlying350
 a59 := Tryz.isAgg350
 z59 := Tryz.sizeOf350
 v59 := Tryz.zeroValue350
 i59 := by kernel_rfl
 t60 := Tryz.underlying182
 a60 := Tryz.isAgg182
 z60 := Tryz.sizeOf182
 v60 := Tryz.zeroValue182
 i60 := by kernel_rfl
 t61 := Tryz.underlying351
 a61 := Tryz.isAgg351
 z61 := Tryz.sizeOf351
 t65 := Tryz.underlying355
 a65 := Tryz.isAgg355
 z65 := Tryz.sizeOf355
 v65 := Tryz.zeroValue355
 i65 := by kernel_rfl
 t66 := Tryz.underlying356
 a66 := Tryz.isAgg356
 z66 := Tryz.sizeOf356
 v66 := Tryz.zeroValue356
 i66 := by kernel_rfl
 t67 := Tryz.underlying295
 a67 := Tryz.isAgg295
 z67 := Tryz.sizeOf295
 v67 := Tryz.zeroValue295
 i67 := by kernel_rfl
 g0 := by kernel_rfl
 m0 := by kernel_rfl
 g1 := by kernel_rfl
 m1 := by kernel_rfl
 g2 := by kernel_rfl
 m2 := by kernel_rfl
 g3 := by kernel_rfl
 m3 := by kernel_rfl
 g4 := by kernel_rfl
 m4 := by kernel_rfl }
open Go.RowKit in
theorem Tryz.strconv_ParseUint_10_at64_ok (s : ByteArray) (hmax : s.size ≤ 9223372036854775806) (u : Nat) (h : Lib.parseUintB 64 s.data.toList = .ok u) (w : World) :
  Calls Tryz.prog 283 #[.string s, .int .i64 10, .int .i64 64] w fun e w' => e = .returned (.tuple #[.int .u64 u, .nilIface]) ∧ (w' = w ∨ w' = Lib.bytesWorld w 5 s) := Any.strconv_ParseUint_10_at64_ok Tryz.laysPu14 s hmax u h w
def Tryz.lays219_ren : Go.Shelf.Ren := ⟨fun | 219 => 265 | 217 => 300 | 225 => 301 | 224 => 302 | 267 => 303 | 266 => 336 | 314 => 337 | n => n, fun | 9 => 9 | 3 => 3 | 4 => 4 | 5 => 5 | 46 => 142 | 146 => 322 | 51 => 182 | n => n, fun | 1 => 0 | n => n⟩
theorem Tryz.lays219 : Go.Proofs.Lays.n219 Tryz.prog Tryz.lays219_ren := {
 mixed := by kernel_rfl
 f217 := Tryz.func300.trans (congrArg some (by kernel_rfl))
 f219 := Tryz.func265.trans (congrArg some (by kernel_rfl))
 f224 := Tryz.func302.trans (congrArg some (by kernel_rfl))
 f225 := Tryz.func301.trans (congrArg some (by kernel_rfl))
 f266 := Tryz.func336.trans (congrArg some (by kernel_rfl))
 f267 := Tryz.func303.trans (congrArg some (by kernel_rfl))
 f314 := Tryz.func337.trans (congrArg some (by kernel_rfl))
 t3 := Tryz.underlying3
 a3 := Tryz.isAgg3
 z3 := Tryz.sizeOf3
 v3 := Tryz.zeroValue3
 t4 := Tryz.underlying4
 a4 := Tryz.isAgg4
 z4 := Tryz.sizeOf4
 v4 := Tryz.zeroValue4
 t5 := Tryz.underlying5
 a5 := Tryz.isAgg5
 z5 := Tryz.sizeOf5
 v5 := Tryz.zeroValue5
 t9 := Tryz.underlying9
 a9 := Tryz.isAgg9
 z9 := Tryz.sizeOf9
 v9 := Tryz.zeroValue9
 t46 := Tryz.underlying142
 a46 := Tryz.isAgg142
 z46 := Tryz.sizeOf142
 v46 := Tryz.zeroValue142
 t51 := Tryz.underlying182
 a51 := Tryz.isAgg182
 z51 := Tryz.sizeOf182
 v51 := Tryz.zeroValue182
 t146 := Tryz.underlying322
 a146 := Tryz.isAgg322
 z146 := Tryz.sizeOf322
 v146 := Tryz.zeroValue322
 g1 := by kernel_rfl }
open Go.RowKit Go.Lib in
theorem Tryz.stringslite_Index_one (s : ByteArray) (c : UInt8) (w : World) :
  Calls Tryz.prog 265 #[.string s, .string ⟨#[c]⟩] w fun e w' => e = .returned (.int .i64 (Lib.indexByte s.data.toList c)) ∧ w' = w := Any.stringslite_Index_one Tryz.lays219 s c w
def Tryz.lays105_ren : Go.Shelf.Ren := ⟨fun | 105 => 288 | 212 => 329 | 99 => 330 | 165 => 331 | 166 => 286 | 170 => 332 | 169 => 289 | 263 => 353 | 264 => 354 | 206 => 314 | 240 => 327 | 241 => 355 | 276 => 352 | 277 => 363 | n => n, fun | 9 => 9 | 3 => 3 | 4 => 4 | 20 => 20 | 0 => 0 | 46 => 142 | 109 => 312 | 5 => 5 | 72 => 291 | 76 => 240 | 51 => 182 | 146 => 322 | 53 => 184 | 148 => 341 | 70 => 289 | 37 => 152 | 75 => 239 | 127 => 316 | 164 => 338 | 80 => 295 | n => n, fun | n => n⟩
theorem Tryz.lays105 : Go.Proofs.Lays.n105 Tryz.prog Tryz.lays105_ren := {
 mixed := by kernel_rfl
 f99 := Tryz.func330.trans (congrArg some (by kernel_rfl))
 f105 := Tryz.func288.trans (congrArg some (by kernel_rfl))
 f165 := Tryz.func331.trans (congrArg some (by kernel_rfl))
 f166 := Tryz.func286.trans (congrArg some (by kernel_rfl))
 f169 := Tryz.func289.trans (congrArg some (by kernel_rfl))
 f170 := Tryz.func332.trans (congrArg some (by kernel_rfl))
 f206 := Tryz.func314.trans (congrArg some (by kernel_rfl))
 f212 := Tryz.func329.trans (congrArg some (by kernel_rfl))
 f240 := Tryz.func327.trans (congrArg some (by kernel_rfl))
 f241 := Tryz.func355.trans (congrArg some (by kernel_rfl))
 f263 := Tryz.func353.trans (congrArg some (by kernel_rfl))
 f264 := Tryz.func354.trans (congrArg some (by kernel_rfl))
 f276 := Tryz.func352.trans (congrArg some (by kernel_rfl))
 f277 := Tryz.func363.trans (congrArg some (by kernel_rfl))
 t0 := Tryz.underlying0
 a0 := Tryz.isAgg0
 z0 := Tryz.sizeOf0
 v0 := Tryz.zeroValue0
 t3 := Tryz.underlying3
 a3 := Tryz.isAgg3
 z3 := Tryz.sizeOf3
 v3 := Tryz.zeroValue3
 t4 := Tryz.underlying4
 a4 := Tryz.isAgg4
 z4 := Tryz.sizeOf4
 v4 := Tryz.zeroValue4
 t5 := Tryz.underlying5
 a5 := Tryz.isAgg5
 z5 := Tryz.sizeOf5
 v5 := Tryz.zeroValue5
 t9 := Tryz.underlying9
 a9 := Tryz.isAgg9
 z9 := Tryz.sizeOf9
 v9 := Tryz.zeroValue9
 t20 := Tryz.underlying20
 a20 := Tryz.isAgg20
 z20 := Tryz.sizeOf20
 v20 := Tryz.zeroValue20
 t37 := Tryz.underlying152
 a37 := Tryz.isAgg152
 z37 := Tryz.sizeOf152
 v37 := Tryz.zeroValue152
 t46 := Tryz.underlying142
 a46 := Tryz.isAgg142
 z46 := Tryz.sizeOf142
 v46 := Tryz.zeroValue142
 t51 := Tryz.underlying182
 a51 := Tryz.isAgg182
 z51 := Tryz.sizeOf182
 v51 := Tryz.zeroValue182
 t53 := Tryz.underlying184
 a53 := Tryz.isAgg184
 z53 := Tryz.sizeOf184
 v53 := Tryz.zeroValue184
 t70 := Tryz.underlying289
 a70 := Tryz.isAgg289
 z70 := Tryz.sizeOf289
 v70 := Tryz.zeroValue289
 t72 := Tryz.underlying291
 a72 := Tryz.isAgg291
 z72 := Tryz.sizeOf291
 v72 := Tryz.zeroValue291
 t75 := Tryz.underlying239
 a75 := Tryz.isAgg239
 z75 := Tryz.sizeOf239
 v75 := Tryz.zeroValue239
 t76 := Tryz.underlying240
 a76 := Tryz.isAgg240
 z76 := Tryz.sizeOf240
 v76 := Tryz.zeroValue240
 t109 := Tryz.underlying312
 a109 := Tryz.isAgg312
 z109 := Tryz.sizeOf312
 v109 := Tryz.zeroValue312
 t127 := Tryz.underlying316
 a127 := Tryz.isAgg316
 z127 := Tryz.sizeOf316
 v127 := Tryz.zeroValue316
 t146 := Tryz.underlying322
 a146 := Tryz.isAgg322
 z146 := Tryz.sizeOf322
 v146 := Tryz.zeroValue322
 t148 := Tryz.underlying341
 a148 := Tryz.isAgg341
 z148 := Tryz.sizeOf341
 v148 := Tryz.zeroValue341
 t164 := Tryz.underlying338
 a164 := Tryz.isAgg338
 z164 := Tryz.sizeOf338
 v164 := Tryz.zeroValue338 }
theorem Tryz.Builder_Extra_105 : Builder.Extra Tryz.prog Tryz.lays105_ren := {
 sizeBuilder := by kernel_rfl
 liesBuilder := by kernel_rfl
 t5 := Tryz.underlying5
 a5 := Tryz.isAgg5
 z5 := Tryz.sizeOf5
 v5 := Tryz.zeroValue5
 infoByte := by kernel_rfl
 cellsByte := by kernel_rfl
 sizeByte := by kernel_rfl
 neB5 := by decide }
open Go.RowKit Go.Lib in
theorem Tryz.strings_Repeat (s : ByteArray) (c : Nat) (w : World) (hc : c ≤ 9223372036854775807) (hlen : s.size * c ≤ 140737488355328) :
  Calls Tryz.prog 288 #[.string s, .int .i64 c] w fun e w' => e = .returned (.string ⟨(Lib.repeatL s.data.toList c).toArray⟩) ∧ Below w.heap.size w w' := Any.strings_Repeat Tryz.lays105 Tryz.Builder_Extra_105 s c w hc hlen
def Tryz.lays194_ren : Go.Shelf.Ren := ⟨fun | 194 => 64 | n => n, fun | 31 => 48 | 9 => 9 | 3 => 3 | 4 => 4 | 0 => 0 | n => n, fun | n => n⟩
theorem Tryz.lays194 : Go.Proofs.Lays.n194 Tryz.prog Tryz.lays194_ren := {
 mixed := by kernel_rfl
 f194 := Tryz.func64.trans (congrArg some (by kernel_rfl))
 t0 := Tryz.underlying0
 a0 := Tryz.isAgg0
 z0 := Tryz.sizeOf0
 v0 := Tryz.zeroValue0
 t3 := Tryz.underlying3
 a3 := Tryz.isAgg3
 z3 := Tryz.sizeOf3
 v3 := Tryz.zeroValue3
 t4 := Tryz.underlying4
 a4 := Tryz.isAgg4
 z4 := Tryz.sizeOf4
 v4 := Tryz.zeroValue4
 t9 := Tryz.underlying9
 a9 := Tryz.isAgg9
 z9 := Tryz.sizeOf9
 v9 := Tryz.zeroValue9
 t31 := Tryz.underlying48
 a31 := Tryz.isAgg48
 z31 := Tryz.sizeOf48
 v31 := Tryz.zeroValue48 }
open Go.RowKit Go.Lib Go.Sort in
theorem Tryz.slices_Compact_string (blk off cap : Nat) (zs : List (List UInt8)) (w : World) (hH : Holds encStr w blk off zs.toArray) (hsz : zs.length ≤ 9223372036854775807) (hcap : zs.length ≤ cap) :
  Calls Tryz.prog 64 #[.slice (some ⟨blk, off, none⟩) zs.length cap] w fun e w' => e = .returned (.slice (some ⟨blk, off, none⟩) (Lib.compact zs).length cap) ∧ ∃ q, w' = putRow encStr (Sort.ahead w q) blk off (Lib.compact zs ++ List.replicate (zs.length - (Lib.compact zs).length) []).toArray := Any.slices_Compact_string Tryz.lays194 blk off cap zs w hH hsz hcap
open Go.RowKit Go.Lib Go.Sort in
theorem Tryz.slices_Compact_string_empty (a : Option Addr) (cap : Nat) (w : World) :
  Calls Tryz.prog 64 #[.slice a 0 cap] w fun e w' => e = .returned (.slice a 0 cap) ∧ w' = w := Any.slices_Compact_string_empty Tryz.lays194 a cap w
def Tryz.laysSlM6_f63_ren : Go.Shelf.Ren := ⟨fun | 6 => 63 | 8 => 107 | 9 => 106 | 19 => 157 | 20 => 158 | 21 => 148 | 22 => 149 | 23 => 150 | 24 => 151 | 25 => 152 | 26 => 153 | 27 => 154 | 28 => 155 | 29 => 156 | 36 => 202 | 31 => 203 | 32 => 204 | 37 => 205 | 38 => 206 | 39 => 188 | 41 => 261 | n => n, fun | 27 => 48 | 29 => 9 | 3 => 3 | 32 => 142 | 26 => 48 | 0 => 0 | 44 => 182 | 46 => 184 | 4 => 4 | 36 => 175 | 35 => 174 | 41 => 69 | 5 => 5 | 9 => 9 | 53 => 218 | 57 => 222 | 63 => 266 | 64 => 267 | n => n, fun | n => n⟩
theorem Tryz.laysSlM6_f63 : Go.Proofs.SlLaysM.n6 Tryz.prog Tryz.laysSlM6_f63_ren := {
 mixed := by kernel_rfl
 f6 := ⟨Tryz.f63.name, by decide, Tryz.func63.trans (congrArg some (by kernel_rfl))⟩
 f8 := Tryz.func107.trans (congrArg some (by kernel_rfl))
 f9 := ⟨Tryz.f106.name, by decide, Tryz.func106.trans (congrArg some (by kernel_rfl))⟩
 f19 := Tryz.func157.trans (congrArg some (by kernel_rfl))
 f20 := Tryz.func158.trans (congrArg some (by kernel_rfl))
 f21 := ⟨Tryz.f148.name, by decide, Tryz.func148.trans (congrArg some (by kernel_rfl))⟩
 f22 := ⟨Tryz.f149.name, by decide, Tryz.func149.trans (congrArg some (by kernel_rfl))⟩
 f23 := ⟨Tryz.f150.name, by decide, Tryz.func150.trans (congrArg some (by kernel_rfl))⟩
 f24 := ⟨Tryz.f151.name, by decide, Tryz.func151.trans (congrArg some (by kernel_rfl))⟩
 f25 := ⟨Tryz.f152.name, by decide, Tryz.func152.trans (congrArg some (by kernel_rfl))⟩
 f26 := ⟨Tryz.f153.name, by decide, Tryz.func153.trans (congrArg some (by kernel_rfl))⟩
 f27 := ⟨Tryz.f154.name, by decide, Tryz.func154.trans (congrArg some (by kernel_rfl))⟩
 f28 := ⟨Tryz.f155.name, by decide, Tryz.func155.trans (congrArg some (by kernel_rfl))⟩
 f29 := ⟨Tryz.f156.name, by decide, Tryz.func156.trans (congrArg some (by kernel_rfl))⟩
 f31 := Tryz.func203.trans (congrArg some (by kernel_rfl))
 f32 := Tryz.func204.trans (congrArg some (by kernel_rfl))
 f36 := ⟨Tryz.f202.name, by decide, Tryz.func202.trans (congrArg some (by kernel_rfl))⟩
 f37 := ⟨Tryz.f205.name, by decide, Tryz.func205.trans (congrArg some (by kernel_rfl))⟩
 f38 := ⟨Tryz.f206.name, by decide, Tryz.func206.trans (congrArg some (by kernel_rfl))⟩
 f39 := ⟨Tryz.f188.name, by decide, Tryz.func188.trans (congrArg some (by kernel_rfl))⟩
 f41 := ⟨Tryz.f261.name, by decide, Tryz.func261.trans (congrArg some (by kernel_rfl))⟩
 t0 := Tryz.underlying0
 a0 := Tryz.isAgg0
 z0 := Tryz.sizeOf0
 v0 := Tryz.zeroValue0
 t3 := Tryz.underlying3
 a3 := Tryz.isAgg3
 z3 := Tryz.sizeOf3
 v3 := Tryz.zeroValue3
 t4 := Tryz.underlying4
 a4 := Tryz.isAgg4
 z4 := Tryz.sizeOf4
 v4 := Tryz.zeroValue4
 t5 := Tryz.underlying5
 a5 := Tryz.isAgg5
 z5 := Tryz.sizeOf5
 v5 := Tryz.zeroValue5
 t9 := Tryz.underlying9
 a9 := Tryz.isAgg9
 z9 := Tryz.sizeOf9
 v9 := Tryz.zeroValue9
 t26 := Tryz.underlying48
 a26 := Tryz.isAgg48
 z26 := Tryz.sizeOf48
 v26 := Tryz.zeroValue48
 t27 := Tryz.underlying48
 a27 := Tryz.isAgg48
 z27 := Tryz.sizeOf48
 v27 := Tryz.zeroValue48
 t29 := Tryz.underlying9
 a29 := Tryz.isAgg9
 z29 := Tryz.sizeOf9
 v29 := Tryz.zeroValue9
 t32 := Tryz.underlying142
 a32 := Tryz.isAgg142
 z32 := Tryz.sizeOf142
 v32 := Tryz.zeroValue142
 t35 := Tryz.underlying174
 a35 := Tryz.isAgg174
 z35 := Tryz.sizeOf174
 v35 := Tryz.zeroValue174
 t36 := Tryz.underlying175
 a36 := Tryz.isAgg175
 z36 := Tryz.sizeOf175
 v36 := Tryz.zeroValue175
 t41 := Tryz.underlying69
 a41 := Tryz.isAgg69
 z41 := Tryz.sizeOf69
 v41 := Tryz.zeroValue69
 t44 := Tryz.underlying182
 a44 := Tryz.isAgg182
 z44 := Tryz.sizeOf182
 v44 := Tryz.zeroValue182
 t46 := Tryz.underlying184
 a46 := Tryz.isAgg184
 z46 := Tryz.sizeOf184
 v46 := Tryz.zeroValue184
 t53 := Tryz.underlying218
 a53 := Tryz.isAgg218
 z53 := Tryz.sizeOf218
 v53 := Tryz.zeroValue218
 t57 := Tryz.underlying222
 a57 := Tryz.isAgg222
 z57 := Tryz.sizeOf222
 v57 := Tryz.zeroValue222
 t63 := Tryz.underlying266
 a63 := Tryz.isAgg266
 z63 := Tryz.sizeOf266
 v63 := Tryz.zeroValue266
 t64 := Tryz.underlying267
 a64 := Tryz.isAgg267
 z64 := Tryz.sizeOf267
 v64 := Tryz.zeroValue267 }
open Go.RowKit Go.Sort in
theorem Tryz.slices_Sort_string_none (p : Option Addr) (cap : Nat) (w : World) :
  Calls Tryz.prog 63 #[.slice p 0 cap] w fun e w' => e = .returned (.tuple #[]) ∧ w' = w := AnyM.slices_Sort_string_none Tryz.laysSlM6_f63 p cap w
def Tryz.laysSlF6_f130_ren : Go.Shelf.Ren := ⟨fun | 6 => 130 | 15 => 107 | 14 => 187 | 28 => 157 | 29 => 158 | 20 => 241 | 21 => 242 | 22 => 243 | 23 => 244 | 24 => 245 | 25 => 246 | 26 => 247 | 27 => 248 | 46 => 290 | 47 => 203 | 48 => 204 | 49 => 291 | 50 => 292 | 57 => 333 | n => n, fun | 22 => 43 | 24 => 48 | 25 => 165 | 3 => 3 | 39 => 142 | 0 => 0 | 53 => 182 | 55 => 184 | 4 => 4 | 46 => 175 | 45 => 174 | 50 => 69 | 5 => 5 | 9 => 9 | 66 => 218 | 70 => 222 | 76 => 266 | 77 => 267 | n => n, fun | n => n⟩
theorem Tryz.laysSlF6_f130 : Go.Proofs.SlLaysF.n6 Tryz.prog Tryz.laysSlF6_f130_ren := {
 mixed := by kernel_rfl
 f6 := ⟨Tryz.f130.name, by decide, Tryz.func130.trans (congrArg some (by kernel_rfl))⟩
 f14 := ⟨Tryz.f187.name, by decide, Tryz.func187.trans (congrArg some (by kernel_rfl))⟩
 f15 := Tryz.func107.trans (congrArg some (by kernel_rfl))
 f20 := ⟨Tryz.f241.name, by decide, Tryz.func241.trans (congrArg some (by kernel_rfl))⟩
 f21 := ⟨Tryz.f242.name, by decide, Tryz.func242.trans (congrArg some (by kernel_rfl))⟩
 f22 := ⟨Tryz.f243.name, by decide, Tryz.func243.trans (congrArg some (by kernel_rfl))⟩
 f23 := ⟨Tryz.f244.name, by decide, Tryz.func244.trans (congrArg some (by kernel_rfl))⟩
 f24 := ⟨Tryz.f245.name, by decide, Tryz.func245.trans (congrArg some (by kernel_rfl))⟩
 f25 := ⟨Tryz.f246.name, by decide, Tryz.func246.trans (congrArg some (by kernel_rfl))⟩
 f26 := ⟨Tryz.f247.name, by decide, Tryz.func247.trans (congrArg some (by kernel_rfl))⟩
 f27 := ⟨Tryz.f248.name, by decide, Tryz.func248.trans (congrArg some (by kernel_rfl))⟩
 f28 := Tryz.func157.trans (congrArg some (by kernel_rfl))
 f29 := Tryz.func158.trans (congrArg some (by kernel_rfl))
 f46 := ⟨Tryz.f290.name, by decide, Tryz.func290.trans (congrArg some (by kernel_rfl))⟩
 f47 := Tryz.func203.trans (congrArg some (by kernel_rfl))
 f48 := Tryz.func204.trans (congrArg some (by kernel_rfl))
 f49 := ⟨Tryz.f291.name, by decide, Tryz.func291.trans (congrArg some (by kernel_rfl))⟩
 f50 := ⟨Tryz.f292.name, by decide, Tryz.func292.trans (congrArg some (by kernel_rfl))⟩
 f57 := ⟨Tryz.f333.name, by decide, Tryz.func333.trans (congrArg some (by kernel_rfl))⟩
 t0 := Tryz.underlying0
 a0 := Tryz.isAgg0
 z0 := Tryz.sizeOf0
 v0 := Tryz.zeroValue0
 t3 := Tryz.underlying3
 a3 := Tryz.isAgg3
 z3 := Tryz.sizeOf3
 v3 := Tryz.zeroValue3
 t4 := Tryz.underlying4
 a4 := Tryz.isAgg4
 z4 := Tryz.sizeOf4
 v4 := Tryz.zeroValue4
 t5 := Tryz.underlying5
 a5 := Tryz.isAgg5
 z5 := Tryz.sizeOf5
 v5 := Tryz.zeroValue5
 t9 := Tryz.underlying9
 a9 := Tryz.isAgg9
 z9 := Tryz.sizeOf9
 v9 := Tryz.zeroValue9
 t22 := Tryz.underlying43
 a22 := Tryz.isAgg43
 z22 := Tryz.sizeOf43
 v22 := Tryz.zeroValue43
 a24 := Tryz.isAgg48
 z24 := Tryz.sizeOf48
 t25 := Tryz.underlying165
 a25 := Tryz.isAgg165
 z25 := Tryz.sizeOf165
 v25 := Tryz.zeroValue165
 t39 := Tryz.underlying142
 a39 := Tryz.isAgg142
 z39 := Tryz.sizeOf142
 v39 := Tryz.zeroValue142
 t45 := Tryz.underlying174
 a45 := Tryz.isAgg174
 z45 := Tryz.sizeOf174
 v45 := Tryz.zeroValue174
 t46 := Tryz.underlying175
 a46 := Tryz.isAgg175
 z46 := Tryz.sizeOf175
 v46 := Tryz.zeroValue175
 t50 := Tryz.underlying69
 a50 := Tryz.isAgg69
 z50 := Tryz.sizeOf69
 v50 := Tryz.zeroValue69
 t53 := Tryz.underlying182
 a53 := Tryz.isAgg182
 z53 := Tryz.sizeOf182
 v53 := Tryz.zeroValue182
 t55 := Tryz.underlying184
 a55 := Tryz.isAgg184
 z55 := Tryz.sizeOf184
 v55 := Tryz.zeroValue184
 t66 := Tryz.underlying218
 a66 := Tryz.isAgg218
 z66 := Tryz.sizeOf218
 v66 := Tryz.zeroValue218
 t70 := Tryz.underlying222
 a70 := Tryz.isAgg222
 z70 := Tryz.sizeOf222
 v70 := Tryz.zeroValue222
 t76 := Tryz.underlying266
 a76 := Tryz.isAgg266
 z76 := Tryz.sizeOf266
 v76 := Tryz.zeroValue266
 t77 := Tryz.underlying267
 a77 := Tryz.isAgg267
 z77 := Tryz.sizeOf267
 v77 := Tryz.zeroValue267 }
def Tryz.laysSlF06_f130_ren : Go.Shelf.Ren := ⟨fun | 6 => 130 | 15 => 107 | 14 => 187 | 28 => 157 | 29 => 158 | 20 => 241 | 21 => 242 | 22 => 243 | 23 => 244 | 24 => 245 | 25 => 246 | 26 => 247 | 27 => 248 | 46 => 290 | 47 => 203 | 48 => 204 | 49 => 291 | 50 => 292 | 57 => 333 | n => n, fun | 22 => 43 | 24 => 48 | 25 => 165 | 3 => 3 | 39 => 142 | 0 => 0 | 53 => 182 | 55 => 184 | 4 => 4 | 46 => 175 | 45 => 174 | 50 => 69 | 5 => 5 | 9 => 9 | 66 => 218 | 70 => 222 | 76 => 266 | 77 => 267 | n => n, fun | n => n⟩
theorem Tryz.laysSlF06_f130 : Go.Proofs.SlLaysF0.n6 Tryz.prog Tryz.laysSlF06_f130_ren := {
 mixed := by kernel_rfl
 f6 := ⟨Tryz.f130.name, by decide, Tryz.func130.trans (congrArg some (by kernel_rfl))⟩
 f14 := ⟨Tryz.f187.name, by decide, Tryz.func187.trans (congrArg some (by kernel_rfl))⟩
 f15 := Tryz.func107.trans (congrArg some (by kernel_rfl))
 f20 := ⟨Tryz.f241.name, by decide, Tryz.func241.trans (congrArg some (by kernel_rfl))⟩
 f21 := ⟨Tryz.f242.name, by decide, Tryz.func242.trans (congrArg some (by kernel_rfl))⟩
 f22 := ⟨Tryz.f243.name, by decide, Tryz.func243.trans (congrArg some (by kernel_rfl))⟩
 f23 := ⟨Tryz.f244.name, by decide, Tryz.func244.trans (congrArg some (by kernel_rfl))⟩
 f24 := ⟨Tryz.f245.name, by decide, Tryz.func245.trans (congrArg some (by kernel_rfl))⟩
 f25 := ⟨Tryz.f246.name, by decide, Tryz.func246.trans (congrArg some (by kernel_rfl))⟩
 f26 := ⟨Tryz.f247.name, by decide, Tryz.func247.trans (congrArg some (by kernel_rfl))⟩
 f27 := ⟨Tryz.f248.name, by decide, Tryz.func248.trans (congrArg some (by kernel_rfl))⟩
 f28 := Tryz.func157.trans (congrArg some (by kernel_rfl))
 f29 := Tryz.func158.trans (congrArg some (by kernel_rfl))
 f46 := ⟨Tryz.f290.name, by decide, Tryz.func290.trans (congrArg some (by kernel_rfl))⟩
 f47 := Tryz.func203.trans (congrArg some (by kernel_rfl))
 f48 := Tryz.func204.trans (congrArg some (by kernel_rfl))
 f49 := ⟨Tryz.f291.name, by decide, Tryz.func291.trans (congrArg some (by kernel_rfl))⟩
 f50 := ⟨Tryz.f292.name, by decide, Tryz.func292.trans (congrArg some (by kernel_rfl))⟩
 f57 := ⟨Tryz.f333.name, by decide, Tryz.func333.trans (congrArg some (by kernel_rfl))⟩
 t0 := Tryz.underlying0
 a0 := Tryz.isAgg0
 z0 := Tryz.sizeOf0
 v0 := Tryz.zeroValue0
 t3 := Tryz.underlying3
 a3 := Tryz.isAgg3
 z3 := Tryz.sizeOf3
 v3 := Tryz.zeroValue3
 t4 := Tryz.underlying4
 a4 := Tryz.isAgg4
 z4 := Tryz.sizeOf4
 v4 := Tryz.zeroValue4
 t5 := Tryz.underlying5
 a5 := Tryz.isAgg5
 z5 := Tryz.sizeOf5
 v5 := Tryz.zeroValue5
 t9 := Tryz.underlying9
 a9 := Tryz.isAgg9
 z9 := Tryz.sizeOf9
 v9 := Tryz.zeroValue9
 t22 := Tryz.underlying43
 a22 := Tryz.isAgg43
 z22 := Tryz.sizeOf43
 v22 := Tryz.zeroValue43
 t25 := Tryz.underlying165
 a25 := Tryz.isAgg165
 z25 := Tryz.sizeOf165
 v25 := Tryz.zeroValue165
 t39 := Tryz.underlying142
 a39 := Tryz.isAgg142
 z39 := Tryz.sizeOf142
 v39 := Tryz.zeroValue142
 t45 := Tryz.underlying174
 a45 := Tryz.isAgg174
 z45 := Tryz.sizeOf174
 v45 := Tryz.zeroValue174
 t46 := Tryz.underlying175
 a46 := Tryz.isAgg175
 z46 := Tryz.sizeOf175
 v46 := Tryz.zeroValue175
 t50 := Tryz.underlying69
 a50 := Tryz.isAgg69
 z50 := Tryz.sizeOf69
 v50 := Tryz.zeroValue69
 t53 := Tryz.underlying182
 a53 := Tryz.isAgg182
 z53 := Tryz.sizeOf182
 v53 := Tryz.zeroValue182
 t55 := Tryz.underlying184
 a55 := Tryz.isAgg184
 z55 := Tryz.sizeOf184
 v55 := Tryz.zeroValue184
 t66 := Tryz.underlying218
 a66 := Tryz.isAgg218
 z66 := Tryz.sizeOf218
 v66 := Tryz.zeroValue218
 t70 := Tryz.underlying222
 a70 := Tryz.isAgg222
 z70 := Tryz.sizeOf222
 v70 := Tryz.zeroValue222
 t76 := Tryz.underlying266
 a76 := Tryz.isAgg266
 z76 := Tryz.sizeOf266
 v76 := Tryz.zeroValue266
 t77 := Tryz.underlying267
 a77 := Tryz.isAgg267
 z77 := Tryz.sizeOf267
 v77 := Tryz.zeroValue267 }
open Go.RowKit Go.Lib Go.Sort in
theorem Tryz.slices_SortFunc_none {α : Type} [Inhabited α] (p : Option Addr) (cap : Nat) (fv : Value) (w : World) :
  Calls Tryz.prog 130 #[.slice p 0 cap, fv] w fun e w' => e = .returned (.tuple #[]) ∧ w' = w := AnyF.slices_SortFunc_none Tryz.laysSlF06_f130 p cap fv w
open Go.RowKit Go.Lib Go.Sort in
theorem Tryz.slices_SortFunc_total {α : Type} [Inhabited α] (enc : α → Value) (h1 : OneCell enc) (cf : α → α → Int) (hO : SWO (ltOf cf)) (g : Nat) (cb : Array Value) (blk off cap : Nat) (d : Array α) (w : World) (eg : ∀ args w, (callFunc g args).run Tryz.prog w = .ok (.enter g args) w) (hcmp : CmpLays1 Tryz.prog g cb enc cf blk off d.size w) (hH : Holds enc w blk off d) (hblk : blk < w.heap.size) (hsz : d.size < 4611686018427387904) (hT : ∀ x y, (ltOf cf) x y = false → (ltOf cf) y x = false → x = y) :
  Calls Tryz.prog 130 #[.slice (some ⟨blk, off, none⟩) d.size cap, .func (.func g) #[] cb] w fun e w' =>
   e = .returned (.tuple #[]) ∧ ∃ n os, w' = sortWorld enc w blk off n (d.toList.mergeSort fun x y => !(ltOf cf) y x).toArray os := Any.slices_SortFunc_total Tryz.laysSlF6_f130 enc h1 cf hO g cb blk off cap d w eg hcmp hH hblk hsz hT
end Go.Proofs

