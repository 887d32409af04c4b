/- The facts on the types of this seat's program that the walks ask: printed by facts.sh, each reckoned by the kernel. -/
import Derived.Test.YteclbnjpijakbaaProg
import Derived.Test.YteclbnjpijakbaaA3
import Derived.KernelRfl
namespace Go.Proofs
open Go Go.AL
@[go_sem] theorem Try.asize3 : aSize Try.prog 3 = some 1 := by kernel_rfl
@[go_sem] theorem Try.abytes3 : aBytes Try.prog 3 = some 8 := by kernel_rfl
@[go_sem] theorem Try.aagg3 : aAgg Try.prog 3 = some false := by kernel_rfl
@[go_sem] theorem Try.azero3 : aZero Try.prog 3 = some [.sc (.int .i64 (0))] := by kernel_rfl
@[go_sem] theorem Try.asize4 : aSize Try.prog 4 = some 1 := by kernel_rfl
@[go_sem] theorem Try.abytes4 : aBytes Try.prog 4 = some 1 := by kernel_rfl
@[go_sem] theorem Try.aagg4 : aAgg Try.prog 4 = some false := by kernel_rfl
@[go_sem] theorem Try.aund4 : Try.prog.underlying 4 = some .bool := by kernel_rfl
@[go_sem] theorem Try.azero4 : aZero Try.prog 4 = some [.sc (.bool false)] := by kernel_rfl
@[go_sem] theorem Try.asize22 : aSize Try.prog 22 = some 1 := by kernel_rfl
@[go_sem] theorem Try.abytes22 : aBytes Try.prog 22 = some 24 := by kernel_rfl
@[go_sem] theorem Try.aagg22 : aAgg Try.prog 22 = some false := by kernel_rfl
@[go_sem] theorem Try.aelem22 : aElem Try.prog 22 = some 31 := by kernel_rfl
@[go_sem] theorem Try.azero22 : aZero Try.prog 22 = some [.slice .full 0 []] := by kernel_rfl
@[go_sem] theorem Try.asize23 : aSize Try.prog 23 = some 1 := by kernel_rfl
@[go_sem] theorem Try.abytes23 : aBytes Try.prog 23 = some 8 := by kernel_rfl
@[go_sem] theorem Try.aagg23 : aAgg Try.prog 23 = some false := by kernel_rfl
@[go_sem] theorem Try.aisptr23 : aIsPtr Try.prog 23 = true := by kernel_rfl
@[go_sem] theorem Try.azero23 : aZero Try.prog 23 = some [.sc (.pointer none)] := by kernel_rfl
@[go_sem] theorem Try.asize24 : aSize Try.prog 24 = some 1 := by kernel_rfl
@[go_sem] theorem Try.abytes24 : aBytes Try.prog 24 = some 8 := by kernel_rfl
@[go_sem] theorem Try.aagg24 : aAgg Try.prog 24 = some false := by kernel_rfl
@[go_sem] theorem Try.aisptr24 : aIsPtr Try.prog 24 = true := by kernel_rfl
@[go_sem] theorem Try.azero24 : aZero Try.prog 24 = some [.sc (.pointer none)] := by kernel_rfl
@[go_sem] theorem Try.asize27 : aSize Try.prog 27 = some 1 := by kernel_rfl
@[go_sem] theorem Try.abytes27 : aBytes Try.prog 27 = some 8 := by kernel_rfl
@[go_sem] theorem Try.aagg27 : aAgg Try.prog 27 = some false := by kernel_rfl
@[go_sem] theorem Try.azero27 : aZero Try.prog 27 = some [.sc (.int .i64 (0))] := by kernel_rfl
@[go_sem] theorem Try.asize29 : aSize Try.prog 29 = some 1 := by kernel_rfl
@[go_sem] theorem Try.abytes29 : aBytes Try.prog 29 = some 24 := by kernel_rfl
@[go_sem] theorem Try.aagg29 : aAgg Try.prog 29 = some false := by kernel_rfl
@[go_sem] theorem Try.aelem29 : aElem Try.prog 29 = some 3 := by kernel_rfl
@[go_sem] theorem Try.azero29 : aZero Try.prog 29 = some [.slice .full 0 []] := by kernel_rfl
@[go_sem] theorem Try.asize30 : aSize Try.prog 30 = some 4 := by kernel_rfl
@[go_sem] theorem Try.abytes30 : aBytes Try.prog 30 = some 32 := by kernel_rfl
@[go_sem] theorem Try.aagg30 : aAgg Try.prog 30 = some true := by kernel_rfl
@[go_sem] theorem Try.afield30_0 : aField Try.prog 30 0 = some (0, 1) := by kernel_rfl
@[go_sem] theorem Try.afield30_1 : aField Try.prog 30 1 = some (1, 1) := by kernel_rfl
@[go_sem] theorem Try.afield30_2 : aField Try.prog 30 2 = some (2, 1) := by kernel_rfl
@[go_sem] theorem Try.afield30_3 : aField Try.prog 30 3 = some (3, 1) := by kernel_rfl
@[go_sem] theorem Try.afieldsok30 : aFieldsOk Try.prog 30 = true := by kernel_rfl
@[go_sem] theorem Try.azero30 : aZero Try.prog 30 = some [.sc (.int .i64 (0)), .sc (.int .i64 (0)), .sc (.int .i64 (0)), .sc (.int .i64 (0))] := by kernel_rfl
@[go_sem] theorem Try.asize31 : aSize Try.prog 31 = some 4 := by kernel_rfl
@[go_sem] theorem Try.abytes31 : aBytes Try.prog 31 = some 32 := by kernel_rfl
@[go_sem] theorem Try.aagg31 : aAgg Try.prog 31 = some true := by kernel_rfl
@[go_sem] theorem Try.afield31_0 : aField Try.prog 31 0 = some (0, 1) := by kernel_rfl
@[go_sem] theorem Try.afield31_1 : aField Try.prog 31 1 = some (1, 1) := by kernel_rfl
@[go_sem] theorem Try.afield31_2 : aField Try.prog 31 2 = some (2, 1) := by kernel_rfl
@[go_sem] theorem Try.afield31_3 : aField Try.prog 31 3 = some (3, 1) := by kernel_rfl
@[go_sem] theorem Try.afieldsok31 : aFieldsOk Try.prog 31 = true := by kernel_rfl
@[go_sem] theorem Try.azero31 : aZero Try.prog 31 = some [.sc (.int .i64 (0)), .sc (.int .i64 (0)), .sc (.int .i64 (0)), .sc (.int .i64 (0))] := by kernel_rfl
@[go_sem] theorem Try.asize38 : aSize Try.prog 38 = some 2 := by kernel_rfl
@[go_sem] theorem Try.abytes38 : aBytes Try.prog 38 = some 16 := by kernel_rfl
@[go_sem] theorem Try.aagg38 : aAgg Try.prog 38 = some true := by kernel_rfl
@[go_sem] theorem Try.afield38_0 : aField Try.prog 38 0 = some (0, 1) := by kernel_rfl
@[go_sem] theorem Try.afield38_1 : aField Try.prog 38 1 = some (1, 1) := by kernel_rfl
@[go_sem] theorem Try.afieldsok38 : aFieldsOk Try.prog 38 = true := by kernel_rfl
@[go_sem] theorem Try.azero38 : aZero Try.prog 38 = some [.sc (.int .i64 (0)), .sc (.int .i64 (0))] := by kernel_rfl
@[go_sem] theorem Try.asize46 : aSize Try.prog 46 = some 1 := by kernel_rfl
@[go_sem] theorem Try.abytes46 : aBytes Try.prog 46 = some 24 := by kernel_rfl
@[go_sem] theorem Try.aagg46 : aAgg Try.prog 46 = some false := by kernel_rfl
@[go_sem] theorem Try.aelem46 : aElem Try.prog 46 = some 29 := by kernel_rfl
@[go_sem] theorem Try.azero46 : aZero Try.prog 46 = some [.slice .full 0 []] := by kernel_rfl
@[go_sem] theorem Try.asize47 : aSize Try.prog 47 = some 1 := by kernel_rfl
@[go_sem] theorem Try.abytes47 : aBytes Try.prog 47 = some 24 := by kernel_rfl
@[go_sem] theorem Try.aagg47 : aAgg Try.prog 47 = some false := by kernel_rfl
@[go_sem] theorem Try.aelem47 : aElem Try.prog 47 = some 59 := by kernel_rfl
@[go_sem] theorem Try.azero47 : aZero Try.prog 47 = some [.slice .full 0 []] := by kernel_rfl
@[go_sem] theorem Try.asize48 : aSize Try.prog 48 = some 1 := by kernel_rfl
@[go_sem] theorem Try.abytes48 : aBytes Try.prog 48 = some 24 := by kernel_rfl
@[go_sem] theorem Try.aagg48 : aAgg Try.prog 48 = some false := by kernel_rfl
@[go_sem] theorem Try.aelem48 : aElem Try.prog 48 = some 61 := by kernel_rfl
@[go_sem] theorem Try.azero48 : aZero Try.prog 48 = some [.slice .full 0 []] := by kernel_rfl
@[go_sem] theorem Try.asize51 : aSize Try.prog 51 = some 8 := by kernel_rfl
@[go_sem] theorem Try.abytes51 : aBytes Try.prog 51 = some 96 := by kernel_rfl
@[go_sem] theorem Try.aagg51 : aAgg Try.prog 51 = some true := by kernel_rfl
@[go_sem] theorem Try.afield51_0 : aField Try.prog 51 0 = some (0, 1) := by kernel_rfl
@[go_sem] theorem Try.afield51_1 : aField Try.prog 51 1 = some (1, 1) := by kernel_rfl
@[go_sem] theorem Try.afield51_2 : aField Try.prog 51 2 = some (2, 1) := by kernel_rfl
@[go_sem] theorem Try.afield51_3 : aField Try.prog 51 3 = some (3, 1) := by kernel_rfl
@[go_sem] theorem Try.afield51_4 : aField Try.prog 51 4 = some (4, 1) := by kernel_rfl
@[go_sem] theorem Try.afield51_5 : aField Try.prog 51 5 = some (5, 1) := by kernel_rfl
@[go_sem] theorem Try.afield51_6 : aField Try.prog 51 6 = some (6, 1) := by kernel_rfl
@[go_sem] theorem Try.afield51_7 : aField Try.prog 51 7 = some (7, 1) := by kernel_rfl
@[go_sem] theorem Try.afieldsok51 : aFieldsOk Try.prog 51 = true := by kernel_rfl
@[go_sem] theorem Try.azero51 : aZero Try.prog 51 = some [.sc (.bool false), .sc (.int .i64 (0)), .slice .full 0 [], .slice .full 0 [], .sc (.int .i64 (0)), .sc (.bool false), .sc (.int .i64 (0)), .sc (.int .i64 (0))] := by kernel_rfl
@[go_sem] theorem Try.asize52 : aSize Try.prog 52 = some 1 := by kernel_rfl
@[go_sem] theorem Try.abytes52 : aBytes Try.prog 52 = some 24 := by kernel_rfl
@[go_sem] theorem Try.aagg52 : aAgg Try.prog 52 = some false := by kernel_rfl
@[go_sem] theorem Try.aelem52 : aElem Try.prog 52 = some 69 := by kernel_rfl
@[go_sem] theorem Try.azero52 : aZero Try.prog 52 = some [.slice .full 0 []] := by kernel_rfl
@[go_sem] theorem Try.asize53 : aSize Try.prog 53 = some 1 := by kernel_rfl
@[go_sem] theorem Try.abytes53 : aBytes Try.prog 53 = some 24 := by kernel_rfl
@[go_sem] theorem Try.aagg53 : aAgg Try.prog 53 = some false := by kernel_rfl
@[go_sem] theorem Try.aelem53 : aElem Try.prog 53 = some 51 := by kernel_rfl
@[go_sem] theorem Try.azero53 : aZero Try.prog 53 = some [.slice .full 0 []] := by kernel_rfl
@[go_sem] theorem Try.asize55 : aSize Try.prog 55 = some 3 := by kernel_rfl
@[go_sem] theorem Try.abytes55 : aBytes Try.prog 55 = some 56 := by kernel_rfl
@[go_sem] theorem Try.aagg55 : aAgg Try.prog 55 = some true := by kernel_rfl
@[go_sem] theorem Try.afield55_0 : aField Try.prog 55 0 = some (0, 1) := by kernel_rfl
@[go_sem] theorem Try.afield55_1 : aField Try.prog 55 1 = some (1, 1) := by kernel_rfl
@[go_sem] theorem Try.afield55_2 : aField Try.prog 55 2 = some (2, 1) := by kernel_rfl
@[go_sem] theorem Try.afieldsok55 : aFieldsOk Try.prog 55 = true := by kernel_rfl
@[go_sem] theorem Try.azero55 : aZero Try.prog 55 = some [.sc (.int .i64 (0)), .slice .full 0 [], .slice .full 0 []] := by kernel_rfl
@[go_sem] theorem Try.asize59 : aSize Try.prog 59 = some 3 := by kernel_rfl
@[go_sem] theorem Try.abytes59 : aBytes Try.prog 59 = some 24 := by kernel_rfl
@[go_sem] theorem Try.aagg59 : aAgg Try.prog 59 = some true := by kernel_rfl
@[go_sem] theorem Try.afield59_0 : aField Try.prog 59 0 = some (0, 1) := by kernel_rfl
@[go_sem] theorem Try.afield59_1 : aField Try.prog 59 1 = some (1, 1) := by kernel_rfl
@[go_sem] theorem Try.afield59_2 : aField Try.prog 59 2 = some (2, 1) := by kernel_rfl
@[go_sem] theorem Try.afieldsok59 : aFieldsOk Try.prog 59 = true := by kernel_rfl
@[go_sem] theorem Try.azero59 : aZero Try.prog 59 = some [.sc (.int .i64 (0)), .sc (.int .i64 (0)), .sc (.int .i64 (0))] := by kernel_rfl
@[go_sem] theorem Try.asize61 : aSize Try.prog 61 = some 3 := by kernel_rfl
@[go_sem] theorem Try.abytes61 : aBytes Try.prog 61 = some 24 := by kernel_rfl
@[go_sem] theorem Try.aagg61 : aAgg Try.prog 61 = some true := by kernel_rfl
@[go_sem] theorem Try.afield61_0 : aField Try.prog 61 0 = some (0, 1) := by kernel_rfl
@[go_sem] theorem Try.afield61_1 : aField Try.prog 61 1 = some (1, 1) := by kernel_rfl
@[go_sem] theorem Try.afield61_2 : aField Try.prog 61 2 = some (2, 1) := by kernel_rfl
@[go_sem] theorem Try.afieldsok61 : aFieldsOk Try.prog 61 = true := by kernel_rfl
@[go_sem] theorem Try.azero61 : aZero Try.prog 61 = some [.sc (.int .i64 (0)), .sc (.int .i64 (0)), .sc (.int .i64 (0))] := by kernel_rfl
@[go_sem] theorem Try.asize69 : aSize Try.prog 69 = some 3 := by kernel_rfl
@[go_sem] theorem Try.abytes69 : aBytes Try.prog 69 = some 24 := by kernel_rfl
@[go_sem] theorem Try.aagg69 : aAgg Try.prog 69 = some true := by kernel_rfl
@[go_sem] theorem Try.afield69_0 : aField Try.prog 69 0 = some (0, 1) := by kernel_rfl
@[go_sem] theorem Try.afield69_1 : aField Try.prog 69 1 = some (1, 1) := by kernel_rfl
@[go_sem] theorem Try.afield69_2 : aField Try.prog 69 2 = some (2, 1) := by kernel_rfl
@[go_sem] theorem Try.afieldsok69 : aFieldsOk Try.prog 69 = true := by kernel_rfl
@[go_sem] theorem Try.azero69 : aZero Try.prog 69 = some [.sc (.int .i64 (0)), .sc (.int .i64 (0)), .sc (.int .i64 (0))] := by kernel_rfl
@[go_sem] theorem Try.asize87 : aSize Try.prog 87 = some 1 := by kernel_rfl
@[go_sem] theorem Try.abytes87 : aBytes Try.prog 87 = some 8 := by kernel_rfl
@[go_sem] theorem Try.aagg87 : aAgg Try.prog 87 = some false := by kernel_rfl
@[go_sem] theorem Try.aisptr87 : aIsPtr Try.prog 87 = true := by kernel_rfl
@[go_sem] theorem Try.azero87 : aZero Try.prog 87 = some [.sc (.pointer none)] := by kernel_rfl
@[go_sem] theorem Try.asize88 : aSize Try.prog 88 = some 1 := by kernel_rfl
@[go_sem] theorem Try.abytes88 : aBytes Try.prog 88 = some 24 := by kernel_rfl
@[go_sem] theorem Try.aagg88 : aAgg Try.prog 88 = some false := by kernel_rfl
@[go_sem] theorem Try.aelem88 : aElem Try.prog 88 = some 106 := by kernel_rfl
@[go_sem] theorem Try.azero88 : aZero Try.prog 88 = some [.slice .full 0 []] := by kernel_rfl
@[go_sem] theorem Try.asize89 : aSize Try.prog 89 = some 8 := by kernel_rfl
@[go_sem] theorem Try.abytes89 : aBytes Try.prog 89 = some 64 := by kernel_rfl
@[go_sem] theorem Try.aagg89 : aAgg Try.prog 89 = some true := by kernel_rfl
@[go_sem] theorem Try.aarr89 : aArr Try.prog 89 = some (8, 1) := by kernel_rfl
@[go_sem] theorem Try.aarrO89 : aArr1 Try.prog 89 = some 8 := by kernel_rfl
@[go_sem] theorem Try.azero89 : aZero Try.prog 89 = some [.sc (.pointer none), .sc (.pointer none), .sc (.pointer none), .sc (.pointer none), .sc (.pointer none), .sc (.pointer none), .sc (.pointer none), .sc (.pointer none)] := by kernel_rfl
@[go_sem] theorem Try.asize91 : aSize Try.prog 91 = some 10 := by kernel_rfl
@[go_sem] theorem Try.abytes91 : aBytes Try.prog 91 = some 96 := by kernel_rfl
@[go_sem] theorem Try.aagg91 : aAgg Try.prog 91 = some true := by kernel_rfl
@[go_sem] theorem Try.afield91_0 : aField Try.prog 91 0 = some (0, 1) := by kernel_rfl
@[go_sem] theorem Try.afield91_1 : aField Try.prog 91 1 = some (1, 1) := by kernel_rfl
@[go_sem] theorem Try.afield91_2 : aField Try.prog 91 2 = some (2, 8) := by kernel_rfl
@[go_sem] theorem Try.afieldsok91 : aFieldsOk Try.prog 91 = true := by kernel_rfl
@[go_sem] theorem Try.azero91 : aZero Try.prog 91 = some [.sc (.int .i64 (0)), .slice .full 0 [], .sc (.pointer none), .sc (.pointer none), .sc (.pointer none), .sc (.pointer none), .sc (.pointer none), .sc (.pointer none), .sc (.pointer none), .sc (.pointer none)] := by kernel_rfl
@[go_sem] theorem Try.asize92 : aSize Try.prog 92 = some 1 := by kernel_rfl
@[go_sem] theorem Try.abytes92 : aBytes Try.prog 92 = some 8 := by kernel_rfl
@[go_sem] theorem Try.aagg92 : aAgg Try.prog 92 = some false := by kernel_rfl
theorem Try.amap92 : aMap Try.prog 92 = some (3, .int .i64, 3) := by kernel_rfl
theorem Try.zeroSV3 : zeroSV Try.prog 3 = some (.sc (.int .i64 (0))) := by kernel_rfl
@[go_sem] theorem Try.azero92 : aZero Try.prog 92 = some [.sc (.map none)] := by kernel_rfl
@[go_sem] theorem Try.asize93 : aSize Try.prog 93 = some 1 := by kernel_rfl
@[go_sem] theorem Try.abytes93 : aBytes Try.prog 93 = some 24 := by kernel_rfl
@[go_sem] theorem Try.aagg93 : aAgg Try.prog 93 = some false := by kernel_rfl
@[go_sem] theorem Try.aelem93 : aElem Try.prog 93 = some 92 := by kernel_rfl
@[go_sem] theorem Try.azero93 : aZero Try.prog 93 = some [.slice .full 0 []] := by kernel_rfl
@[go_sem] theorem Try.asize95 : aSize Try.prog 95 = some 7 := by kernel_rfl
@[go_sem] theorem Try.abytes95 : aBytes Try.prog 95 = some 96 := by kernel_rfl
@[go_sem] theorem Try.aagg95 : aAgg Try.prog 95 = some true := by kernel_rfl
@[go_sem] theorem Try.afield95_0 : aField Try.prog 95 0 = some (0, 1) := by kernel_rfl
@[go_sem] theorem Try.afield95_1 : aField Try.prog 95 1 = some (1, 1) := by kernel_rfl
@[go_sem] theorem Try.afield95_2 : aField Try.prog 95 2 = some (2, 1) := by kernel_rfl
@[go_sem] theorem Try.afield95_3 : aField Try.prog 95 3 = some (3, 1) := by kernel_rfl
@[go_sem] theorem Try.afield95_4 : aField Try.prog 95 4 = some (4, 1) := by kernel_rfl
@[go_sem] theorem Try.afield95_5 : aField Try.prog 95 5 = some (5, 1) := by kernel_rfl
@[go_sem] theorem Try.afield95_6 : aField Try.prog 95 6 = some (6, 1) := by kernel_rfl
@[go_sem] theorem Try.afieldsok95 : aFieldsOk Try.prog 95 = true := by kernel_rfl
@[go_sem] theorem Try.azero95 : aZero Try.prog 95 = some [.sc (.int .i64 (0)), .sc (.int .i64 (0)), .slice .full 0 [], .slice .full 0 [], .sc (.bool false), .sc (.bool false), .slice .full 0 []] := by kernel_rfl
@[go_sem] theorem Try.asize106 : aSize Try.prog 106 = some 3 := by kernel_rfl
@[go_sem] theorem Try.abytes106 : aBytes Try.prog 106 = some 24 := by kernel_rfl
@[go_sem] theorem Try.aagg106 : aAgg Try.prog 106 = some true := by kernel_rfl
@[go_sem] theorem Try.afield106_0 : aField Try.prog 106 0 = some (0, 1) := by kernel_rfl
@[go_sem] theorem Try.afield106_1 : aField Try.prog 106 1 = some (1, 1) := by kernel_rfl
@[go_sem] theorem Try.afield106_2 : aField Try.prog 106 2 = some (2, 1) := by kernel_rfl
@[go_sem] theorem Try.afieldsok106 : aFieldsOk Try.prog 106 = true := by kernel_rfl
@[go_sem] theorem Try.azero106 : aZero Try.prog 106 = some [.sc (.int .i64 (0)), .sc (.int .i64 (0)), .sc (.int .i64 (0))] := by kernel_rfl
@[go_sem] theorem Try.asize143 : aSize Try.prog 143 = some 1 := by kernel_rfl
@[go_sem] theorem Try.abytes143 : aBytes Try.prog 143 = some 8 := by kernel_rfl
@[go_sem] theorem Try.aagg143 : aAgg Try.prog 143 = some false := by kernel_rfl
@[go_sem] theorem Try.azero143 : aZero Try.prog 143 = some [.sc .nilFunc] := by kernel_rfl
@[go_sem] theorem Try.asize167 : aSize Try.prog 167 = some 1 := by kernel_rfl
@[go_sem] theorem Try.abytes167 : aBytes Try.prog 167 = some 8 := by kernel_rfl
@[go_sem] theorem Try.aagg167 : aAgg Try.prog 167 = some false := by kernel_rfl
@[go_sem] theorem Try.azero167 : aZero Try.prog 167 = some [.sc (.int .u64 (0))] := by kernel_rfl
@[go_sem] theorem Try.abody4 : aBody Try.prog 4 = true := by kernel_rfl
@[go_sem] theorem Try.abody5 : aBody Try.prog 5 = true := by kernel_rfl
@[go_sem] theorem Try.abody6 : aBody Try.prog 6 = true := by kernel_rfl
@[go_sem] theorem Try.abody7 : aBody Try.prog 7 = true := by kernel_rfl
@[go_sem] theorem Try.abody8 : aBody Try.prog 8 = true := by kernel_rfl
@[go_sem] theorem Try.abody9 : aBody Try.prog 9 = true := by kernel_rfl
@[go_sem] theorem Try.abody11 : aBody Try.prog 11 = true := by kernel_rfl
@[go_sem] theorem Try.abody12 : aBody Try.prog 12 = true := by kernel_rfl
@[go_sem] theorem Try.abody13 : aBody Try.prog 13 = true := by kernel_rfl
@[go_sem] theorem Try.abody14 : aBody Try.prog 14 = true := by kernel_rfl
@[go_sem] theorem Try.abody15 : aBody Try.prog 15 = true := by kernel_rfl
@[go_sem] theorem Try.abody16 : aBody Try.prog 16 = true := by kernel_rfl
@[go_sem] theorem Try.abody17 : aBody Try.prog 17 = true := by kernel_rfl
@[go_sem] theorem Try.abody18 : aBody Try.prog 18 = true := by kernel_rfl
@[go_sem] theorem Try.abody19 : aBody Try.prog 19 = true := by kernel_rfl
@[go_sem] theorem Try.abody20 : aBody Try.prog 20 = true := by kernel_rfl
@[go_sem] theorem Try.abody21 : aBody Try.prog 21 = true := by kernel_rfl
@[go_sem] theorem Try.abody22 : aBody Try.prog 22 = true := by kernel_rfl
@[go_sem] theorem Try.abody23 : aBody Try.prog 23 = true := by kernel_rfl
@[go_sem] theorem Try.abody24 : aBody Try.prog 24 = true := by kernel_rfl
@[go_sem] theorem Try.abody25 : aBody Try.prog 25 = true := by kernel_rfl
@[go_sem] theorem Try.abody26 : aBody Try.prog 26 = true := by kernel_rfl
@[go_sem] theorem Try.abody27 : aBody Try.prog 27 = true := by kernel_rfl
@[go_sem] theorem Try.abody28 : aBody Try.prog 28 = true := by kernel_rfl
@[go_sem] theorem Try.abody29 : aBody Try.prog 29 = true := by kernel_rfl
@[go_sem] theorem Try.abody30 : aBody Try.prog 30 = true := by kernel_rfl
@[go_sem] theorem Try.abody31 : aBody Try.prog 31 = true := by kernel_rfl
@[go_sem] theorem Try.abody32 : aBody Try.prog 32 = true := by kernel_rfl
@[go_sem] theorem Try.abody33 : aBody Try.prog 33 = true := by kernel_rfl
@[go_sem] theorem Try.abody34 : aBody Try.prog 34 = true := by kernel_rfl
@[go_sem] theorem Try.abody35 : aBody Try.prog 35 = true := by kernel_rfl
@[go_sem] theorem Try.abody42 : aBody Try.prog 42 = true := by kernel_rfl
@[go_sem] theorem Try.abody43 : aBody Try.prog 43 = true := by kernel_rfl
@[go_sem] theorem Try.abody44 : aBody Try.prog 44 = true := by kernel_rfl
@[go_sem] theorem Try.abody45 : aBody Try.prog 45 = true := by kernel_rfl
@[go_sem] theorem Try.abody46 : aBody Try.prog 46 = true := by kernel_rfl
@[go_sem] theorem Try.abody47 : aBody Try.prog 47 = true := by kernel_rfl
@[go_sem] theorem Try.abody48 : aBody Try.prog 48 = true := by kernel_rfl
@[go_sem] theorem Try.abody49 : aBody Try.prog 49 = true := by kernel_rfl
@[go_sem] theorem Try.abody50 : aBody Try.prog 50 = true := by kernel_rfl
@[go_sem] theorem Try.abody51 : aBody Try.prog 51 = true := by kernel_rfl
@[go_sem] theorem Try.abody52 : aBody Try.prog 52 = true := by kernel_rfl
@[go_sem] theorem Try.abody53 : aBody Try.prog 53 = true := by kernel_rfl
@[go_sem] theorem Try.abody54 : aBody Try.prog 54 = true := by kernel_rfl
@[go_sem] theorem Try.abody55 : aBody Try.prog 55 = true := by kernel_rfl
@[go_sem] theorem Try.abody56 : aBody Try.prog 56 = true := by kernel_rfl
@[go_sem] theorem Try.abody57 : aBody Try.prog 57 = true := by kernel_rfl
@[go_sem] theorem Try.abody58 : aBody Try.prog 58 = true := by kernel_rfl
@[go_sem] theorem Try.abody59 : aBody Try.prog 59 = true := by kernel_rfl
@[go_sem] theorem Try.abody60 : aBody Try.prog 60 = true := by kernel_rfl
@[go_sem] theorem Try.abody61 : aBody Try.prog 61 = true := by kernel_rfl
@[go_sem] theorem Try.abody62 : aBody Try.prog 62 = true := by kernel_rfl
@[go_sem] theorem Try.abody63 : aBody Try.prog 63 = true := by kernel_rfl
@[go_sem] theorem Try.abody64 : aBody Try.prog 64 = true := by kernel_rfl
@[go_sem] theorem Try.abody65 : aBody Try.prog 65 = true := by kernel_rfl
@[go_sem] theorem Try.abody66 : aBody Try.prog 66 = true := by kernel_rfl
@[go_sem] theorem Try.abody67 : aBody Try.prog 67 = true := by kernel_rfl
@[go_sem] theorem Try.abody68 : aBody Try.prog 68 = true := by kernel_rfl
@[go_sem] theorem Try.abody74 : aBody Try.prog 74 = true := by kernel_rfl
@[go_sem] theorem Try.abody75 : aBody Try.prog 75 = true := by kernel_rfl
@[go_sem] theorem Try.abody76 : aBody Try.prog 76 = true := by kernel_rfl
@[go_sem] theorem Try.abody77 : aBody Try.prog 77 = true := by kernel_rfl
@[go_sem] theorem Try.abody78 : aBody Try.prog 78 = true := by kernel_rfl
@[go_sem] theorem Try.abody79 : aBody Try.prog 79 = true := by kernel_rfl
@[go_sem] theorem Try.abody80 : aBody Try.prog 80 = true := by kernel_rfl
@[go_sem] theorem Try.abody81 : aBody Try.prog 81 = true := by kernel_rfl
@[go_sem] theorem Try.abody82 : aBody Try.prog 82 = true := by kernel_rfl
@[go_sem] theorem Try.mixed : Try.prog.follows .mixedOrders = true := by kernel_rfl
end Go.Proofs
