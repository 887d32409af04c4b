/- The facts on the types of this seat's program that the walks ask: printed by facts.sh, each reckoned by the kernel. -/
import Derived.Test.YtammbegfobhflaaGreatProg
import Derived.Test.YtammbegfobhflaaGreatA9
import Derived.KernelRfl
set_option linter.all false
namespace Go.Proofs
open Go Go.AL
@[go_sem] theorem Tryz.asize3 : aSize Tryz.prog 3 = some 1 := by kernel_rfl
@[go_sem] theorem Tryz.abytes3 : aBytes Tryz.prog 3 = some 8 := by kernel_rfl
@[go_sem] theorem Tryz.aagg3 : aAgg Tryz.prog 3 = some false := by kernel_rfl
@[go_sem] theorem Tryz.azero3 : aZero Tryz.prog 3 = some [.sc (.int .i64 (0))] := by kernel_rfl
@[go_sem] theorem Tryz.asize4 : aSize Tryz.prog 4 = some 1 := by kernel_rfl
@[go_sem] theorem Tryz.abytes4 : aBytes Tryz.prog 4 = some 1 := by kernel_rfl
@[go_sem] theorem Tryz.aagg4 : aAgg Tryz.prog 4 = some false := by kernel_rfl
@[go_sem] theorem Tryz.azero4 : aZero Tryz.prog 4 = some [.sc (.bool false)] := by kernel_rfl
@[go_sem] theorem Tryz.asize9 : aSize Tryz.prog 9 = some 1 := by kernel_rfl
@[go_sem] theorem Tryz.abytes9 : aBytes Tryz.prog 9 = some 16 := by kernel_rfl
@[go_sem] theorem Tryz.aagg9 : aAgg Tryz.prog 9 = some false := by kernel_rfl
@[go_sem] theorem Tryz.aund9 : Tryz.prog.underlying 9 = some .string := by kernel_rfl
@[go_sem] theorem Tryz.azero9 : aZero Tryz.prog 9 = some [.sc (.string ⟨#[]⟩)] := by kernel_rfl
@[go_sem] theorem Tryz.asize22 : aSize Tryz.prog 22 = some 1 := by kernel_rfl
@[go_sem] theorem Tryz.aagg22 : aAgg Tryz.prog 22 = some false := by kernel_rfl
@[go_sem] theorem Tryz.aelem22 : aElem Tryz.prog 22 = some 30 := by kernel_rfl
@[go_sem] theorem Tryz.asize23 : aSize Tryz.prog 23 = some 1 := by kernel_rfl
@[go_sem] theorem Tryz.aagg23 : aAgg Tryz.prog 23 = some false := by kernel_rfl
@[go_sem] theorem Tryz.aelem23 : aElem Tryz.prog 23 = some 3 := by kernel_rfl
@[go_sem] theorem Tryz.asize24 : aSize Tryz.prog 24 = some 1 := by kernel_rfl
@[go_sem] theorem Tryz.aagg24 : aAgg Tryz.prog 24 = some false := by kernel_rfl
@[go_sem] theorem Tryz.aelem24 : aElem Tryz.prog 24 = some 151 := by kernel_rfl
@[go_sem] theorem Tryz.asize25 : aSize Tryz.prog 25 = some 1 := by kernel_rfl
@[go_sem] theorem Tryz.aagg25 : aAgg Tryz.prog 25 = some false := by kernel_rfl
@[go_sem] theorem Tryz.aelem25 : aElem Tryz.prog 25 = some 27 := by kernel_rfl
@[go_sem] theorem Tryz.asize27 : aSize Tryz.prog 27 = some 4 := by kernel_rfl
@[go_sem] theorem Tryz.aagg27 : aAgg Tryz.prog 27 = some true := by kernel_rfl
@[go_sem] theorem Tryz.afield27_0 : aField Tryz.prog 27 0 = some (0, 1) := by kernel_rfl
@[go_sem] theorem Tryz.afield27_2 : aField Tryz.prog 27 2 = some (2, 1) := by kernel_rfl
@[go_sem] theorem Tryz.afield27_3 : aField Tryz.prog 27 3 = some (3, 1) := by kernel_rfl
@[go_sem] theorem Tryz.asize28 : aSize Tryz.prog 28 = some 1 := by kernel_rfl
@[go_sem] theorem Tryz.aagg28 : aAgg Tryz.prog 28 = some false := by kernel_rfl
@[go_sem] theorem Tryz.aelem28 : aElem Tryz.prog 28 = some 119 := by kernel_rfl
@[go_sem] theorem Tryz.asize30 : aSize Tryz.prog 30 = some 9 := by kernel_rfl
@[go_sem] theorem Tryz.aagg30 : aAgg Tryz.prog 30 = some true := by kernel_rfl
@[go_sem] theorem Tryz.afield30_0 : aField Tryz.prog 30 0 = some (0, 1) := by kernel_rfl
@[go_sem] theorem Tryz.afield30_1 : aField Tryz.prog 30 1 = some (1, 1) := by kernel_rfl
@[go_sem] theorem Tryz.afield30_2 : aField Tryz.prog 30 2 = some (2, 1) := by kernel_rfl
@[go_sem] theorem Tryz.afield30_3 : aField Tryz.prog 30 3 = some (3, 1) := by kernel_rfl
@[go_sem] theorem Tryz.afield30_4 : aField Tryz.prog 30 4 = some (4, 4) := by kernel_rfl
@[go_sem] theorem Tryz.afield30_5 : aField Tryz.prog 30 5 = some (8, 1) := by kernel_rfl
@[go_sem] theorem Tryz.afieldsok30 : aFieldsOk Tryz.prog 30 = true := by kernel_rfl
@[go_sem] theorem Tryz.azero30 : aZero Tryz.prog 30 = some [.sc (.int .i64 (0)), .sc (.int .i64 (0)), .sc (.string ⟨#[]⟩), .slice .full 0 [], .sc (.int .i64 (0)), .slice .full 0 [], .slice .full 0 [], .slice .full 0 [], .slice .full 0 []] := by kernel_rfl
@[go_sem] theorem Tryz.asize32 : aSize Tryz.prog 32 = some 11 := by kernel_rfl
@[go_sem] theorem Tryz.aagg32 : aAgg Tryz.prog 32 = some true := by kernel_rfl
@[go_sem] theorem Tryz.afield32_0 : aField Tryz.prog 32 0 = some (0, 1) := by kernel_rfl
@[go_sem] theorem Tryz.afield32_1 : aField Tryz.prog 32 1 = some (1, 1) := by kernel_rfl
@[go_sem] theorem Tryz.afield32_2 : aField Tryz.prog 32 2 = some (2, 9) := by kernel_rfl
@[go_sem] theorem Tryz.afieldsok32 : aFieldsOk Tryz.prog 32 = true := by kernel_rfl
@[go_sem] theorem Tryz.azero32 : aZero Tryz.prog 32 = some [.sc (.int .i64 (0)), .sc (.int .i64 (0)), .sc (.int .i64 (0)), .sc (.int .i64 (0)), .sc (.string ⟨#[]⟩), .slice .full 0 [], .sc (.int .i64 (0)), .slice .full 0 [], .slice .full 0 [], .slice .full 0 [], .slice .full 0 []] := by kernel_rfl
@[go_sem] theorem Tryz.aelem33 : aElem Tryz.prog 33 = some 32 := by kernel_rfl
@[go_sem] theorem Tryz.asize34 : aSize Tryz.prog 34 = some 1 := by kernel_rfl
@[go_sem] theorem Tryz.aagg34 : aAgg Tryz.prog 34 = some false := by kernel_rfl
@[go_sem] theorem Tryz.aelem34 : aElem Tryz.prog 34 = some 59 := by kernel_rfl
@[go_sem] theorem Tryz.asize35 : aSize Tryz.prog 35 = some 1 := by kernel_rfl
@[go_sem] theorem Tryz.aagg35 : aAgg Tryz.prog 35 = some false := by kernel_rfl
@[go_sem] theorem Tryz.aelem35 : aElem Tryz.prog 35 = some 9 := by kernel_rfl
@[go_sem] theorem Tryz.asize37 : aSize Tryz.prog 37 = some 4 := by kernel_rfl
@[go_sem] theorem Tryz.aagg37 : aAgg Tryz.prog 37 = some true := by kernel_rfl
@[go_sem] theorem Tryz.afield37_0 : aField Tryz.prog 37 0 = some (0, 1) := by kernel_rfl
@[go_sem] theorem Tryz.afield37_1 : aField Tryz.prog 37 1 = some (1, 1) := by kernel_rfl
@[go_sem] theorem Tryz.afield37_2 : aField Tryz.prog 37 2 = some (2, 1) := by kernel_rfl
@[go_sem] theorem Tryz.afield37_3 : aField Tryz.prog 37 3 = some (3, 1) := by kernel_rfl
@[go_sem] theorem Tryz.afieldsok37 : aFieldsOk Tryz.prog 37 = true := by kernel_rfl
@[go_sem] theorem Tryz.azero37 : aZero Tryz.prog 37 = some [.slice .full 0 [], .slice .full 0 [], .slice .full 0 [], .sc (.int .i64 (0))] := by kernel_rfl
@[go_sem] theorem Tryz.asize45 : aSize Tryz.prog 45 = some 1 := by kernel_rfl
@[go_sem] theorem Tryz.aagg45 : aAgg Tryz.prog 45 = some false := by kernel_rfl
@[go_sem] theorem Tryz.afield47_0 : aField Tryz.prog 47 0 = some (0, 1) := by kernel_rfl
@[go_sem] theorem Tryz.afield47_1 : aField Tryz.prog 47 1 = some (1, 1) := by kernel_rfl
@[go_sem] theorem Tryz.afield47_2 : aField Tryz.prog 47 2 = some (2, 1) := by kernel_rfl
@[go_sem] theorem Tryz.afieldsok47 : aFieldsOk Tryz.prog 47 = true := by kernel_rfl
@[go_sem] theorem Tryz.azero47 : aZero Tryz.prog 47 = some [.slice .full 0 [], .slice .full 0 [], .slice .full 0 []] := by kernel_rfl
@[go_sem] theorem Tryz.asize49 : aSize Tryz.prog 49 = some 1 := by kernel_rfl
@[go_sem] theorem Tryz.aagg49 : aAgg Tryz.prog 49 = some false := by kernel_rfl
@[go_sem] theorem Tryz.aelem49 : aElem Tryz.prog 49 = some 56 := by kernel_rfl
@[go_sem] theorem Tryz.afield51_0 : aField Tryz.prog 51 0 = some (0, 1) := by kernel_rfl
@[go_sem] theorem Tryz.afield51_1 : aField Tryz.prog 51 1 = some (1, 1) := by kernel_rfl
@[go_sem] theorem Tryz.afieldsok51 : aFieldsOk Tryz.prog 51 = true := by kernel_rfl
@[go_sem] theorem Tryz.azero51 : aZero Tryz.prog 51 = some [.sc (.pointer none), .slice .full 0 []] := by kernel_rfl
@[go_sem] theorem Tryz.asize56 : aSize Tryz.prog 56 = some 3 := by kernel_rfl
@[go_sem] theorem Tryz.abytes56 : aBytes Tryz.prog 56 = some 24 := by kernel_rfl
@[go_sem] theorem Tryz.aagg56 : aAgg Tryz.prog 56 = some true := by kernel_rfl
@[go_sem] theorem Tryz.afield56_0 : aField Tryz.prog 56 0 = some (0, 1) := by kernel_rfl
@[go_sem] theorem Tryz.afield56_1 : aField Tryz.prog 56 1 = some (1, 1) := by kernel_rfl
@[go_sem] theorem Tryz.afield56_2 : aField Tryz.prog 56 2 = some (2, 1) := by kernel_rfl
@[go_sem] theorem Tryz.afieldsok56 : aFieldsOk Tryz.prog 56 = true := by kernel_rfl
@[go_sem] theorem Tryz.azero56 : aZero Tryz.prog 56 = some [.sc (.int .i64 (0)), .sc (.int .i64 (0)), .sc (.int .i64 (0))] := by kernel_rfl
@[go_sem] theorem Tryz.asize59 : aSize Tryz.prog 59 = some 4 := by kernel_rfl
@[go_sem] theorem Tryz.abytes59 : aBytes Tryz.prog 59 = some 48 := by kernel_rfl
@[go_sem] theorem Tryz.aagg59 : aAgg Tryz.prog 59 = some true := by kernel_rfl
@[go_sem] theorem Tryz.afield59_0 : aField Tryz.prog 59 0 = some (0, 1) := by kernel_rfl
@[go_sem] theorem Tryz.afield59_1 : aField Tryz.prog 59 1 = some (1, 1) := by kernel_rfl
@[go_sem] theorem Tryz.afield59_2 : aField Tryz.prog 59 2 = some (2, 1) := by kernel_rfl
@[go_sem] theorem Tryz.afield59_3 : aField Tryz.prog 59 3 = some (3, 1) := by kernel_rfl
@[go_sem] theorem Tryz.afieldsok59 : aFieldsOk Tryz.prog 59 = true := by kernel_rfl
@[go_sem] theorem Tryz.azero59 : aZero Tryz.prog 59 = some [.sc (.int .i64 (0)), .sc (.int .i64 (0)), .sc (.int .i64 (0)), .slice .full 0 []] := by kernel_rfl
@[go_sem] theorem Tryz.afield63_0 : aField Tryz.prog 63 0 = some (0, 1) := by kernel_rfl
@[go_sem] theorem Tryz.afield63_1 : aField Tryz.prog 63 1 = some (1, 1) := by kernel_rfl
@[go_sem] theorem Tryz.afield63_2 : aField Tryz.prog 63 2 = some (2, 1) := by kernel_rfl
@[go_sem] theorem Tryz.afield63_3 : aField Tryz.prog 63 3 = some (3, 1) := by kernel_rfl
@[go_sem] theorem Tryz.afieldsok63 : aFieldsOk Tryz.prog 63 = true := by kernel_rfl
@[go_sem] theorem Tryz.azero63 : aZero Tryz.prog 63 = some [.slice .full 0 [], .slice .full 0 [], .slice .full 0 [], .sc (.bool false)] := by kernel_rfl
theorem Tryz.amap67 : aMap Tryz.prog 67 = some (3, .int .i64, 66) := by kernel_rfl
@[go_sem] theorem Tryz.afield83_0 : aField Tryz.prog 83 0 = some (0, 4) := by kernel_rfl
@[go_sem] theorem Tryz.afield83_1 : aField Tryz.prog 83 1 = some (4, 1) := by kernel_rfl
@[go_sem] theorem Tryz.afield83_2 : aField Tryz.prog 83 2 = some (5, 4) := by kernel_rfl
@[go_sem] theorem Tryz.afieldsok83 : aFieldsOk Tryz.prog 83 = true := by kernel_rfl
@[go_sem] theorem Tryz.azero83 : aZero Tryz.prog 83 = some [.slice .full 0 [], .slice .full 0 [], .slice .full 0 [], .sc (.int .i64 (0)), .sc (.int .i64 (0)), .sc (.int .i64 (0)), .sc (.int .i64 (0)), .sc (.int .i64 (0)), .slice .full 0 []] := by kernel_rfl
@[go_sem] theorem Tryz.aelem84 : aElem Tryz.prog 84 = some 114 := by kernel_rfl
@[go_sem] theorem Tryz.aelem94 : aElem Tryz.prog 94 = some 125 := by kernel_rfl
theorem Tryz.amap100 : aMap Tryz.prog 100 = some (3, .int .i64, 3) := by kernel_rfl
@[go_sem] theorem Tryz.asize108 : aSize Tryz.prog 108 = some 1 := by kernel_rfl
@[go_sem] theorem Tryz.aagg108 : aAgg Tryz.prog 108 = some false := by kernel_rfl
@[go_sem] theorem Tryz.aelem108 : aElem Tryz.prog 108 = some 145 := by kernel_rfl
@[go_sem] theorem Tryz.asize110 : aSize Tryz.prog 110 = some 2 := by kernel_rfl
@[go_sem] theorem Tryz.aagg110 : aAgg Tryz.prog 110 = some true := by kernel_rfl
@[go_sem] theorem Tryz.afield110_0 : aField Tryz.prog 110 0 = some (0, 1) := by kernel_rfl
@[go_sem] theorem Tryz.afield110_1 : aField Tryz.prog 110 1 = some (1, 1) := by kernel_rfl
@[go_sem] theorem Tryz.afieldsok110 : aFieldsOk Tryz.prog 110 = true := by kernel_rfl
@[go_sem] theorem Tryz.azero110 : aZero Tryz.prog 110 = some [.sc (.int .i64 (0)), .slice .full 0 []] := by kernel_rfl
@[go_sem] theorem Tryz.asize112 : aSize Tryz.prog 112 = some 3 := by kernel_rfl
@[go_sem] theorem Tryz.abytes112 : aBytes Tryz.prog 112 = some 40 := by kernel_rfl
@[go_sem] theorem Tryz.aagg112 : aAgg Tryz.prog 112 = some true := by kernel_rfl
@[go_sem] theorem Tryz.afield112_0 : aField Tryz.prog 112 0 = some (0, 1) := by kernel_rfl
@[go_sem] theorem Tryz.afield112_1 : aField Tryz.prog 112 1 = some (1, 2) := by kernel_rfl
@[go_sem] theorem Tryz.afieldsok112 : aFieldsOk Tryz.prog 112 = true := by kernel_rfl
@[go_sem] theorem Tryz.azero112 : aZero Tryz.prog 112 = some [.sc (.int .i64 (0)), .sc (.int .i64 (0)), .slice .full 0 []] := by kernel_rfl
@[go_sem] theorem Tryz.aelem113 : aElem Tryz.prog 113 = some 112 := by kernel_rfl
@[go_sem] theorem Tryz.asize114 : aSize Tryz.prog 114 = some 1 := by kernel_rfl
@[go_sem] theorem Tryz.abytes114 : aBytes Tryz.prog 114 = some 8 := by kernel_rfl
@[go_sem] theorem Tryz.aagg114 : aAgg Tryz.prog 114 = some false := by kernel_rfl
@[go_sem] theorem Tryz.aisptr114 : aIsPtr Tryz.prog 114 = true := by kernel_rfl
@[go_sem] theorem Tryz.azero114 : aZero Tryz.prog 114 = some [.sc (.pointer none)] := by kernel_rfl
@[go_sem] theorem Tryz.asize119 : aSize Tryz.prog 119 = some 1 := by kernel_rfl
@[go_sem] theorem Tryz.aagg119 : aAgg Tryz.prog 119 = some false := by kernel_rfl
@[go_sem] theorem Tryz.aelem119 : aElem Tryz.prog 119 = some 122 := by kernel_rfl
@[go_sem] theorem Tryz.asize122 : aSize Tryz.prog 122 = some 2 := by kernel_rfl
@[go_sem] theorem Tryz.aagg122 : aAgg Tryz.prog 122 = some true := by kernel_rfl
@[go_sem] theorem Tryz.afield122_0 : aField Tryz.prog 122 0 = some (0, 1) := by kernel_rfl
@[go_sem] theorem Tryz.afield122_1 : aField Tryz.prog 122 1 = some (1, 1) := by kernel_rfl
@[go_sem] theorem Tryz.azero122 : aZero Tryz.prog 122 = some [.sc (.int .i64 (0)), .slice .full 0 []] := by kernel_rfl
@[go_sem] theorem Tryz.asize123 : aSize Tryz.prog 123 = some 1 := by kernel_rfl
@[go_sem] theorem Tryz.aagg123 : aAgg Tryz.prog 123 = some false := by kernel_rfl
@[go_sem] theorem Tryz.aelem123 : aElem Tryz.prog 123 = some 157 := by kernel_rfl
@[go_sem] theorem Tryz.asize125 : aSize Tryz.prog 125 = some 3 := by kernel_rfl
@[go_sem] theorem Tryz.abytes125 : aBytes Tryz.prog 125 = some 40 := by kernel_rfl
@[go_sem] theorem Tryz.aagg125 : aAgg Tryz.prog 125 = some true := by kernel_rfl
@[go_sem] theorem Tryz.afield125_0 : aField Tryz.prog 125 0 = some (0, 1) := by kernel_rfl
@[go_sem] theorem Tryz.afield125_1 : aField Tryz.prog 125 1 = some (1, 1) := by kernel_rfl
@[go_sem] theorem Tryz.afield125_2 : aField Tryz.prog 125 2 = some (2, 1) := by kernel_rfl
@[go_sem] theorem Tryz.afieldsok125 : aFieldsOk Tryz.prog 125 = true := by kernel_rfl
@[go_sem] theorem Tryz.azero125 : aZero Tryz.prog 125 = some [.sc (.bool false), .sc (.int .i64 (0)), .slice .full 0 []] := by kernel_rfl
@[go_sem] theorem Tryz.aelem126 : aElem Tryz.prog 126 = some 4 := by kernel_rfl
theorem Tryz.amap128 : aMap Tryz.prog 128 = some (3, .int .i64, 23) := by kernel_rfl
theorem Tryz.amap138 : aMap Tryz.prog 138 = some (3, .int .i64, 137) := by kernel_rfl
@[go_sem] theorem Tryz.asize145 : aSize Tryz.prog 145 = some 2 := by kernel_rfl
@[go_sem] theorem Tryz.abytes145 : aBytes Tryz.prog 145 = some 16 := by kernel_rfl
@[go_sem] theorem Tryz.aagg145 : aAgg Tryz.prog 145 = some true := by kernel_rfl
@[go_sem] theorem Tryz.afield145_0 : aField Tryz.prog 145 0 = some (0, 1) := by kernel_rfl
@[go_sem] theorem Tryz.afield145_1 : aField Tryz.prog 145 1 = some (1, 1) := by kernel_rfl
@[go_sem] theorem Tryz.afieldsok145 : aFieldsOk Tryz.prog 145 = true := by kernel_rfl
@[go_sem] theorem Tryz.azero145 : aZero Tryz.prog 145 = some [.sc (.int .i64 (0)), .sc (.int .i64 (0))] := by kernel_rfl
@[go_sem] theorem Tryz.asize157 : aSize Tryz.prog 157 = some 2 := by kernel_rfl
@[go_sem] theorem Tryz.abytes157 : aBytes Tryz.prog 157 = some 16 := by kernel_rfl
@[go_sem] theorem Tryz.aagg157 : aAgg Tryz.prog 157 = some true := by kernel_rfl
@[go_sem] theorem Tryz.afield157_0 : aField Tryz.prog 157 0 = some (0, 1) := by kernel_rfl
@[go_sem] theorem Tryz.afield157_1 : aField Tryz.prog 157 1 = some (1, 1) := by kernel_rfl
@[go_sem] theorem Tryz.afieldsok157 : aFieldsOk Tryz.prog 157 = true := by kernel_rfl
@[go_sem] theorem Tryz.azero157 : aZero Tryz.prog 157 = some [.sc (.int .i64 (0)), .sc (.int .i64 (0))] := by kernel_rfl
@[go_sem] theorem Tryz.asize164 : aSize Tryz.prog 164 = some 1 := by kernel_rfl
@[go_sem] theorem Tryz.aagg164 : aAgg Tryz.prog 164 = some false := by kernel_rfl
@[go_sem] theorem Tryz.abody4 : aBody Tryz.prog 4 = true := by kernel_rfl
@[go_sem] theorem Tryz.abody5 : aBody Tryz.prog 5 = true := by kernel_rfl
@[go_sem] theorem Tryz.abody6 : aBody Tryz.prog 6 = true := by kernel_rfl
@[go_sem] theorem Tryz.abody7 : aBody Tryz.prog 7 = true := by kernel_rfl
@[go_sem] theorem Tryz.abody8 : aBody Tryz.prog 8 = true := by kernel_rfl
@[go_sem] theorem Tryz.abody9 : aBody Tryz.prog 9 = true := by kernel_rfl
@[go_sem] theorem Tryz.abody10 : aBody Tryz.prog 10 = true := by kernel_rfl
@[go_sem] theorem Tryz.abody12 : aBody Tryz.prog 12 = true := by kernel_rfl
@[go_sem] theorem Tryz.abody13 : aBody Tryz.prog 13 = true := by kernel_rfl
@[go_sem] theorem Tryz.abody14 : aBody Tryz.prog 14 = true := by kernel_rfl
@[go_sem] theorem Tryz.abody15 : aBody Tryz.prog 15 = true := by kernel_rfl
@[go_sem] theorem Tryz.abody16 : aBody Tryz.prog 16 = true := by kernel_rfl
@[go_sem] theorem Tryz.abody17 : aBody Tryz.prog 17 = true := by kernel_rfl
@[go_sem] theorem Tryz.abody18 : aBody Tryz.prog 18 = true := by kernel_rfl
@[go_sem] theorem Tryz.abody19 : aBody Tryz.prog 19 = true := by kernel_rfl
@[go_sem] theorem Tryz.abody20 : aBody Tryz.prog 20 = true := by kernel_rfl
@[go_sem] theorem Tryz.abody21 : aBody Tryz.prog 21 = true := by kernel_rfl
@[go_sem] theorem Tryz.abody22 : aBody Tryz.prog 22 = true := by kernel_rfl
@[go_sem] theorem Tryz.abody23 : aBody Tryz.prog 23 = true := by kernel_rfl
@[go_sem] theorem Tryz.abody24 : aBody Tryz.prog 24 = true := by kernel_rfl
@[go_sem] theorem Tryz.abody25 : aBody Tryz.prog 25 = true := by kernel_rfl
@[go_sem] theorem Tryz.abody26 : aBody Tryz.prog 26 = true := by kernel_rfl
@[go_sem] theorem Tryz.abody27 : aBody Tryz.prog 27 = true := by kernel_rfl
@[go_sem] theorem Tryz.abody28 : aBody Tryz.prog 28 = true := by kernel_rfl
@[go_sem] theorem Tryz.abody29 : aBody Tryz.prog 29 = true := by kernel_rfl
@[go_sem] theorem Tryz.abody32 : aBody Tryz.prog 32 = true := by kernel_rfl
@[go_sem] theorem Tryz.abody33 : aBody Tryz.prog 33 = true := by kernel_rfl
@[go_sem] theorem Tryz.abody36 : aBody Tryz.prog 36 = true := by kernel_rfl
@[go_sem] theorem Tryz.abody38 : aBody Tryz.prog 38 = true := by kernel_rfl
@[go_sem] theorem Tryz.abody39 : aBody Tryz.prog 39 = true := by kernel_rfl
@[go_sem] theorem Tryz.abody40 : aBody Tryz.prog 40 = true := by kernel_rfl
@[go_sem] theorem Tryz.abody41 : aBody Tryz.prog 41 = true := by kernel_rfl
@[go_sem] theorem Tryz.abody42 : aBody Tryz.prog 42 = true := by kernel_rfl
@[go_sem] theorem Tryz.abody43 : aBody Tryz.prog 43 = true := by kernel_rfl
@[go_sem] theorem Tryz.abody44 : aBody Tryz.prog 44 = true := by kernel_rfl
@[go_sem] theorem Tryz.abody45 : aBody Tryz.prog 45 = true := by kernel_rfl
@[go_sem] theorem Tryz.abody46 : aBody Tryz.prog 46 = true := by kernel_rfl
@[go_sem] theorem Tryz.abody47 : aBody Tryz.prog 47 = true := by kernel_rfl
@[go_sem] theorem Tryz.abody48 : aBody Tryz.prog 48 = true := by kernel_rfl
@[go_sem] theorem Tryz.abody50 : aBody Tryz.prog 50 = true := by kernel_rfl
@[go_sem] theorem Tryz.abody51 : aBody Tryz.prog 51 = true := by kernel_rfl
@[go_sem] theorem Tryz.abody52 : aBody Tryz.prog 52 = true := by kernel_rfl
@[go_sem] theorem Tryz.abody53 : aBody Tryz.prog 53 = true := by kernel_rfl
@[go_sem] theorem Tryz.abody54 : aBody Tryz.prog 54 = true := by kernel_rfl
@[go_sem] theorem Tryz.abody56 : aBody Tryz.prog 56 = true := by kernel_rfl
@[go_sem] theorem Tryz.abody58 : aBody Tryz.prog 58 = true := by kernel_rfl
@[go_sem] theorem Tryz.abody60 : aBody Tryz.prog 60 = true := by kernel_rfl
@[go_sem] theorem Tryz.abody61 : aBody Tryz.prog 61 = true := by kernel_rfl
@[go_sem] theorem Tryz.abody64 : aBody Tryz.prog 64 = true := by kernel_rfl
@[go_sem] theorem Tryz.abody65 : aBody Tryz.prog 65 = true := by kernel_rfl
@[go_sem] theorem Tryz.abody66 : aBody Tryz.prog 66 = true := by kernel_rfl
@[go_sem] theorem Tryz.abody67 : aBody Tryz.prog 67 = true := by kernel_rfl
@[go_sem] theorem Tryz.abody72 : aBody Tryz.prog 72 = true := by kernel_rfl
@[go_sem] theorem Tryz.abody74 : aBody Tryz.prog 74 = true := by kernel_rfl
@[go_sem] theorem Tryz.abody75 : aBody Tryz.prog 75 = true := by kernel_rfl
@[go_sem] theorem Tryz.abody76 : aBody Tryz.prog 76 = true := by kernel_rfl
@[go_sem] theorem Tryz.abody77 : aBody Tryz.prog 77 = true := by kernel_rfl
@[go_sem] theorem Tryz.abody78 : aBody Tryz.prog 78 = true := by kernel_rfl
@[go_sem] theorem Tryz.abody79 : aBody Tryz.prog 79 = true := by kernel_rfl
@[go_sem] theorem Tryz.abody80 : aBody Tryz.prog 80 = true := by kernel_rfl
@[go_sem] theorem Tryz.abody82 : aBody Tryz.prog 82 = true := by kernel_rfl
@[go_sem] theorem Tryz.abody83 : aBody Tryz.prog 83 = true := by kernel_rfl
@[go_sem] theorem Tryz.abody85 : aBody Tryz.prog 85 = true := by kernel_rfl
@[go_sem] theorem Tryz.abody86 : aBody Tryz.prog 86 = true := by kernel_rfl
@[go_sem] theorem Tryz.abody87 : aBody Tryz.prog 87 = true := by kernel_rfl
@[go_sem] theorem Tryz.abody88 : aBody Tryz.prog 88 = true := by kernel_rfl
@[go_sem] theorem Tryz.abody92 : aBody Tryz.prog 92 = true := by kernel_rfl
@[go_sem] theorem Tryz.abody95 : aBody Tryz.prog 95 = true := by kernel_rfl
@[go_sem] theorem Tryz.abody100 : aBody Tryz.prog 100 = true := by kernel_rfl
@[go_sem] theorem Tryz.abody105 : aBody Tryz.prog 105 = true := by kernel_rfl
@[go_sem] theorem Tryz.abody106 : aBody Tryz.prog 106 = true := by kernel_rfl
@[go_sem] theorem Tryz.mixed : Tryz.prog.follows .mixedOrders = true := by kernel_rfl
end Go.Proofs
