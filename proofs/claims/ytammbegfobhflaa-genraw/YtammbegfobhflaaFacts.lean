/- The facts on the types of this seat's program that the walks ask: printed by facts.sh, each reckoned by the kernel. -/
import Derived.Test.YtammbegfobhflaaProg
import Derived.Test.YtammbegfobhflaaA9
import Derived.KernelRfl
set_option linter.all false
namespace Go.Proofs
open Go Go.AL
@[go_sem] theorem Try.asize3 : aSize Try.prog 3 = some 1 := by kernel_rfl
@[go_sem] theorem Try.abytes3 : aBytes Try.prog 3 = some 8 := by kernel_rfl
@[go_sem] theorem Try.aagg3 : aAgg Try.prog 3 = some false := by kernel_rfl
@[go_sem] theorem Try.azero3 : aZero Try.prog 3 = some [.sc (.int .i64 (0))] := by kernel_rfl
@[go_sem] theorem Try.asize4 : aSize Try.prog 4 = some 1 := by kernel_rfl
@[go_sem] theorem Try.abytes4 : aBytes Try.prog 4 = some 1 := by kernel_rfl
@[go_sem] theorem Try.aagg4 : aAgg Try.prog 4 = some false := by kernel_rfl
@[go_sem] theorem Try.azero4 : aZero Try.prog 4 = some [.sc (.bool false)] := by kernel_rfl
@[go_sem] theorem Try.asize9 : aSize Try.prog 9 = some 1 := by kernel_rfl
@[go_sem] theorem Try.abytes9 : aBytes Try.prog 9 = some 16 := by kernel_rfl
@[go_sem] theorem Try.aagg9 : aAgg Try.prog 9 = some false := by kernel_rfl
@[go_sem] theorem Try.aund9 : Try.prog.underlying 9 = some .string := by kernel_rfl
@[go_sem] theorem Try.azero9 : aZero Try.prog 9 = some [.sc (.string ⟨#[]⟩)] := by kernel_rfl
@[go_sem] theorem Try.aelem22 : aElem Try.prog 22 = some 33 := by kernel_rfl
@[go_sem] theorem Try.asize23 : aSize Try.prog 23 = some 1 := by kernel_rfl
@[go_sem] theorem Try.aagg23 : aAgg Try.prog 23 = some false := by kernel_rfl
@[go_sem] theorem Try.aelem23 : aElem Try.prog 23 = some 31 := by kernel_rfl
@[go_sem] theorem Try.asize24 : aSize Try.prog 24 = some 1 := by kernel_rfl
@[go_sem] theorem Try.aagg24 : aAgg Try.prog 24 = some false := by kernel_rfl
@[go_sem] theorem Try.aelem24 : aElem Try.prog 24 = some 3 := by kernel_rfl
@[go_sem] theorem Try.asize25 : aSize Try.prog 25 = some 1 := by kernel_rfl
@[go_sem] theorem Try.aagg25 : aAgg Try.prog 25 = some false := by kernel_rfl
@[go_sem] theorem Try.aelem25 : aElem Try.prog 25 = some 145 := by kernel_rfl
@[go_sem] theorem Try.asize26 : aSize Try.prog 26 = some 1 := by kernel_rfl
@[go_sem] theorem Try.aagg26 : aAgg Try.prog 26 = some false := by kernel_rfl
@[go_sem] theorem Try.aelem26 : aElem Try.prog 26 = some 28 := by kernel_rfl
@[go_sem] theorem Try.asize28 : aSize Try.prog 28 = some 4 := by kernel_rfl
@[go_sem] theorem Try.aagg28 : aAgg Try.prog 28 = some true := by kernel_rfl
@[go_sem] theorem Try.afield28_0 : aField Try.prog 28 0 = some (0, 1) := by kernel_rfl
@[go_sem] theorem Try.afield28_2 : aField Try.prog 28 2 = some (2, 1) := by kernel_rfl
@[go_sem] theorem Try.afield28_3 : aField Try.prog 28 3 = some (3, 1) := by kernel_rfl
@[go_sem] theorem Try.asize29 : aSize Try.prog 29 = some 1 := by kernel_rfl
@[go_sem] theorem Try.aagg29 : aAgg Try.prog 29 = some false := by kernel_rfl
@[go_sem] theorem Try.aelem29 : aElem Try.prog 29 = some 45 := by kernel_rfl
@[go_sem] theorem Try.asize31 : aSize Try.prog 31 = some 9 := by kernel_rfl
@[go_sem] theorem Try.abytes31 : aBytes Try.prog 31 = some 160 := by kernel_rfl
@[go_sem] theorem Try.aagg31 : aAgg Try.prog 31 = some true := by kernel_rfl
@[go_sem] theorem Try.afield31_0 : aField Try.prog 31 0 = some (0, 1) := by kernel_rfl
@[go_sem] theorem Try.afield31_1 : aField Try.prog 31 1 = some (1, 1) := by kernel_rfl
@[go_sem] theorem Try.afield31_2 : aField Try.prog 31 2 = some (2, 1) := by kernel_rfl
@[go_sem] theorem Try.afield31_3 : aField Try.prog 31 3 = some (3, 1) := by kernel_rfl
@[go_sem] theorem Try.afield31_4 : aField Try.prog 31 4 = some (4, 4) := by kernel_rfl
@[go_sem] theorem Try.afield31_5 : aField Try.prog 31 5 = some (8, 1) := by kernel_rfl
@[go_sem] theorem Try.afieldsok31 : aFieldsOk Try.prog 31 = true := by kernel_rfl
@[go_sem] theorem Try.azero31 : aZero Try.prog 31 = some [.sc (.int .i64 (0)), .sc (.int .i64 (0)), .sc (.string ⟨#[]⟩), .slice .full 0 [], .sc (.int .i64 (0)), .slice .full 0 [], .slice .full 0 [], .slice .full 0 [], .slice .full 0 []] := by kernel_rfl
@[go_sem] theorem Try.asize33 : aSize Try.prog 33 = some 11 := by kernel_rfl
@[go_sem] theorem Try.abytes33 : aBytes Try.prog 33 = some 176 := by kernel_rfl
@[go_sem] theorem Try.aagg33 : aAgg Try.prog 33 = some true := by kernel_rfl
@[go_sem] theorem Try.afield33_0 : aField Try.prog 33 0 = some (0, 1) := by kernel_rfl
@[go_sem] theorem Try.afield33_1 : aField Try.prog 33 1 = some (1, 1) := by kernel_rfl
@[go_sem] theorem Try.afield33_2 : aField Try.prog 33 2 = some (2, 9) := by kernel_rfl
@[go_sem] theorem Try.afieldsok33 : aFieldsOk Try.prog 33 = true := by kernel_rfl
@[go_sem] theorem Try.azero33 : aZero Try.prog 33 = some [.sc (.int .i64 (0)), .sc (.int .i64 (0)), .sc (.int .i64 (0)), .sc (.int .i64 (0)), .sc (.string ⟨#[]⟩), .slice .full 0 [], .sc (.int .i64 (0)), .slice .full 0 [], .slice .full 0 [], .slice .full 0 [], .slice .full 0 []] := by kernel_rfl
@[go_sem] theorem Try.asize35 : aSize Try.prog 35 = some 1 := by kernel_rfl
@[go_sem] theorem Try.aagg35 : aAgg Try.prog 35 = some false := by kernel_rfl
@[go_sem] theorem Try.aelem35 : aElem Try.prog 35 = some 63 := by kernel_rfl
@[go_sem] theorem Try.asize36 : aSize Try.prog 36 = some 1 := by kernel_rfl
@[go_sem] theorem Try.aagg36 : aAgg Try.prog 36 = some false := by kernel_rfl
@[go_sem] theorem Try.aelem36 : aElem Try.prog 36 = some 9 := by kernel_rfl
@[go_sem] theorem Try.asize38 : aSize Try.prog 38 = some 4 := by kernel_rfl
@[go_sem] theorem Try.aagg38 : aAgg Try.prog 38 = some true := by kernel_rfl
@[go_sem] theorem Try.afield38_0 : aField Try.prog 38 0 = some (0, 1) := by kernel_rfl
@[go_sem] theorem Try.afield38_1 : aField Try.prog 38 1 = some (1, 1) := by kernel_rfl
@[go_sem] theorem Try.afield38_2 : aField Try.prog 38 2 = some (2, 1) := by kernel_rfl
@[go_sem] theorem Try.afield38_3 : aField Try.prog 38 3 = some (3, 1) := by kernel_rfl
@[go_sem] theorem Try.afieldsok38 : aFieldsOk Try.prog 38 = true := by kernel_rfl
@[go_sem] theorem Try.azero38 : aZero Try.prog 38 = some [.slice .full 0 [], .slice .full 0 [], .slice .full 0 [], .sc (.int .i64 (0))] := by kernel_rfl
@[go_sem] theorem Try.asize45 : aSize Try.prog 45 = some 1 := by kernel_rfl
@[go_sem] theorem Try.abytes45 : aBytes Try.prog 45 = some 24 := by kernel_rfl
@[go_sem] theorem Try.aagg45 : aAgg Try.prog 45 = some false := by kernel_rfl
@[go_sem] theorem Try.aelem45 : aElem Try.prog 45 = some 47 := by kernel_rfl
@[go_sem] theorem Try.azero45 : aZero Try.prog 45 = some [.slice .full 0 []] := by kernel_rfl
@[go_sem] theorem Try.asize47 : aSize Try.prog 47 = some 2 := by kernel_rfl
@[go_sem] theorem Try.abytes47 : aBytes Try.prog 47 = some 32 := by kernel_rfl
@[go_sem] theorem Try.aagg47 : aAgg Try.prog 47 = some true := by kernel_rfl
@[go_sem] theorem Try.afield47_0 : aField Try.prog 47 0 = some (0, 1) := by kernel_rfl
@[go_sem] theorem Try.afield47_1 : aField Try.prog 47 1 = some (1, 1) := by kernel_rfl
@[go_sem] theorem Try.afieldsok47 : aFieldsOk Try.prog 47 = true := by kernel_rfl
@[go_sem] theorem Try.azero47 : aZero Try.prog 47 = some [.sc (.int .i64 (0)), .slice .full 0 []] := by kernel_rfl
@[go_sem] theorem Try.asize49 : aSize Try.prog 49 = some 1 := by kernel_rfl
@[go_sem] theorem Try.aagg49 : aAgg Try.prog 49 = some false := by kernel_rfl
@[go_sem] theorem Try.afield51_0 : aField Try.prog 51 0 = some (0, 1) := by kernel_rfl
@[go_sem] theorem Try.afield51_1 : aField Try.prog 51 1 = some (1, 1) := by kernel_rfl
@[go_sem] theorem Try.afield51_2 : aField Try.prog 51 2 = some (2, 1) := by kernel_rfl
@[go_sem] theorem Try.afieldsok51 : aFieldsOk Try.prog 51 = true := by kernel_rfl
@[go_sem] theorem Try.azero51 : aZero Try.prog 51 = some [.slice .full 0 [], .slice .full 0 [], .slice .full 0 []] := by kernel_rfl
@[go_sem] theorem Try.asize53 : aSize Try.prog 53 = some 1 := by kernel_rfl
@[go_sem] theorem Try.aagg53 : aAgg Try.prog 53 = some false := by kernel_rfl
@[go_sem] theorem Try.aelem53 : aElem Try.prog 53 = some 60 := by kernel_rfl
@[go_sem] theorem Try.afield55_0 : aField Try.prog 55 0 = some (0, 1) := by kernel_rfl
@[go_sem] theorem Try.afield55_1 : aField Try.prog 55 1 = some (1, 1) := by kernel_rfl
@[go_sem] theorem Try.afieldsok55 : aFieldsOk Try.prog 55 = true := by kernel_rfl
@[go_sem] theorem Try.azero55 : aZero Try.prog 55 = some [.sc (.pointer none), .slice .full 0 []] := by kernel_rfl
@[go_sem] theorem Try.asize60 : aSize Try.prog 60 = some 3 := by kernel_rfl
@[go_sem] theorem Try.abytes60 : aBytes Try.prog 60 = some 24 := by kernel_rfl
@[go_sem] theorem Try.aagg60 : aAgg Try.prog 60 = some true := by kernel_rfl
@[go_sem] theorem Try.afield60_0 : aField Try.prog 60 0 = some (0, 1) := by kernel_rfl
@[go_sem] theorem Try.afield60_1 : aField Try.prog 60 1 = some (1, 1) := by kernel_rfl
@[go_sem] theorem Try.afield60_2 : aField Try.prog 60 2 = some (2, 1) := by kernel_rfl
@[go_sem] theorem Try.afieldsok60 : aFieldsOk Try.prog 60 = true := by kernel_rfl
@[go_sem] theorem Try.azero60 : aZero Try.prog 60 = some [.sc (.int .i64 (0)), .sc (.int .i64 (0)), .sc (.int .i64 (0))] := by kernel_rfl
@[go_sem] theorem Try.asize63 : aSize Try.prog 63 = some 4 := by kernel_rfl
@[go_sem] theorem Try.abytes63 : aBytes Try.prog 63 = some 48 := by kernel_rfl
@[go_sem] theorem Try.aagg63 : aAgg Try.prog 63 = some true := by kernel_rfl
@[go_sem] theorem Try.afield63_0 : aField Try.prog 63 0 = some (0, 1) := by kernel_rfl
@[go_sem] theorem Try.afield63_1 : aField Try.prog 63 1 = some (1, 1) := by kernel_rfl
@[go_sem] theorem Try.afield63_2 : aField Try.prog 63 2 = some (2, 1) := by kernel_rfl
@[go_sem] theorem Try.afield63_3 : aField Try.prog 63 3 = some (3, 1) := by kernel_rfl
@[go_sem] theorem Try.afieldsok63 : aFieldsOk Try.prog 63 = true := by kernel_rfl
@[go_sem] theorem Try.azero63 : aZero Try.prog 63 = some [.sc (.int .i64 (0)), .sc (.int .i64 (0)), .sc (.int .i64 (0)), .slice .full 0 []] := by kernel_rfl
@[go_sem] theorem Try.aelem65 : aElem Try.prog 65 = some 90 := by kernel_rfl
theorem Try.amap70 : aMap Try.prog 70 = some (3, .int .i64, 69) := by kernel_rfl
@[go_sem] theorem Try.afield84_0 : aField Try.prog 84 0 = some (0, 4) := by kernel_rfl
@[go_sem] theorem Try.afield84_1 : aField Try.prog 84 1 = some (4, 1) := by kernel_rfl
@[go_sem] theorem Try.afield84_2 : aField Try.prog 84 2 = some (5, 4) := by kernel_rfl
@[go_sem] theorem Try.afieldsok84 : aFieldsOk Try.prog 84 = true := by kernel_rfl
@[go_sem] theorem Try.azero84 : aZero Try.prog 84 = some [.slice .full 0 [], .slice .full 0 [], .slice .full 0 [], .sc (.int .i64 (0)), .sc (.int .i64 (0)), .sc (.int .i64 (0)), .sc (.int .i64 (0)), .sc (.int .i64 (0)), .slice .full 0 []] := by kernel_rfl
@[go_sem] theorem Try.aelem85 : aElem Try.prog 85 = some 111 := by kernel_rfl
@[go_sem] theorem Try.asize88 : aSize Try.prog 88 = some 1 := by kernel_rfl
@[go_sem] theorem Try.aagg88 : aAgg Try.prog 88 = some false := by kernel_rfl
@[go_sem] theorem Try.aelem88 : aElem Try.prog 88 = some 119 := by kernel_rfl
@[go_sem] theorem Try.asize90 : aSize Try.prog 90 = some 3 := by kernel_rfl
@[go_sem] theorem Try.abytes90 : aBytes Try.prog 90 = some 40 := by kernel_rfl
@[go_sem] theorem Try.aagg90 : aAgg Try.prog 90 = some true := by kernel_rfl
@[go_sem] theorem Try.afield90_0 : aField Try.prog 90 0 = some (0, 1) := by kernel_rfl
@[go_sem] theorem Try.afield90_1 : aField Try.prog 90 1 = some (1, 1) := by kernel_rfl
@[go_sem] theorem Try.afield90_2 : aField Try.prog 90 2 = some (2, 1) := by kernel_rfl
@[go_sem] theorem Try.afieldsok90 : aFieldsOk Try.prog 90 = true := by kernel_rfl
@[go_sem] theorem Try.azero90 : aZero Try.prog 90 = some [.sc (.bool false), .sc (.int .i64 (0)), .slice .full 0 []] := by kernel_rfl
@[go_sem] theorem Try.aelem91 : aElem Try.prog 91 = some 4 := by kernel_rfl
theorem Try.amap96 : aMap Try.prog 96 = some (3, .int .i64, 3) := by kernel_rfl
@[go_sem] theorem Try.asize105 : aSize Try.prog 105 = some 1 := by kernel_rfl
@[go_sem] theorem Try.aagg105 : aAgg Try.prog 105 = some false := by kernel_rfl
@[go_sem] theorem Try.aelem105 : aElem Try.prog 105 = some 138 := by kernel_rfl
@[go_sem] theorem Try.asize107 : aSize Try.prog 107 = some 2 := by kernel_rfl
@[go_sem] theorem Try.aagg107 : aAgg Try.prog 107 = some true := by kernel_rfl
@[go_sem] theorem Try.afield107_0 : aField Try.prog 107 0 = some (0, 1) := by kernel_rfl
@[go_sem] theorem Try.afield107_1 : aField Try.prog 107 1 = some (1, 1) := by kernel_rfl
@[go_sem] theorem Try.afieldsok107 : aFieldsOk Try.prog 107 = true := by kernel_rfl
@[go_sem] theorem Try.azero107 : aZero Try.prog 107 = some [.sc (.int .i64 (0)), .slice .full 0 []] := by kernel_rfl
@[go_sem] theorem Try.asize109 : aSize Try.prog 109 = some 3 := by kernel_rfl
@[go_sem] theorem Try.abytes109 : aBytes Try.prog 109 = some 40 := by kernel_rfl
@[go_sem] theorem Try.aagg109 : aAgg Try.prog 109 = some true := by kernel_rfl
@[go_sem] theorem Try.afield109_0 : aField Try.prog 109 0 = some (0, 1) := by kernel_rfl
@[go_sem] theorem Try.afield109_1 : aField Try.prog 109 1 = some (1, 2) := by kernel_rfl
@[go_sem] theorem Try.afieldsok109 : aFieldsOk Try.prog 109 = true := by kernel_rfl
@[go_sem] theorem Try.azero109 : aZero Try.prog 109 = some [.sc (.int .i64 (0)), .sc (.int .i64 (0)), .slice .full 0 []] := by kernel_rfl
@[go_sem] theorem Try.aelem110 : aElem Try.prog 110 = some 109 := by kernel_rfl
@[go_sem] theorem Try.asize111 : aSize Try.prog 111 = some 1 := by kernel_rfl
@[go_sem] theorem Try.abytes111 : aBytes Try.prog 111 = some 8 := by kernel_rfl
@[go_sem] theorem Try.aagg111 : aAgg Try.prog 111 = some false := by kernel_rfl
@[go_sem] theorem Try.aisptr111 : aIsPtr Try.prog 111 = true := by kernel_rfl
@[go_sem] theorem Try.azero111 : aZero Try.prog 111 = some [.sc (.pointer none)] := by kernel_rfl
@[go_sem] theorem Try.asize119 : aSize Try.prog 119 = some 2 := by kernel_rfl
@[go_sem] theorem Try.abytes119 : aBytes Try.prog 119 = some 16 := by kernel_rfl
@[go_sem] theorem Try.aagg119 : aAgg Try.prog 119 = some true := by kernel_rfl
@[go_sem] theorem Try.afield119_0 : aField Try.prog 119 0 = some (0, 1) := by kernel_rfl
@[go_sem] theorem Try.afield119_1 : aField Try.prog 119 1 = some (1, 1) := by kernel_rfl
@[go_sem] theorem Try.afieldsok119 : aFieldsOk Try.prog 119 = true := by kernel_rfl
@[go_sem] theorem Try.azero119 : aZero Try.prog 119 = some [.sc (.int .i64 (0)), .sc (.int .i64 (0))] := by kernel_rfl
theorem Try.amap122 : aMap Try.prog 122 = some (3, .int .i64, 24) := by kernel_rfl
theorem Try.amap132 : aMap Try.prog 132 = some (3, .int .i64, 131) := by kernel_rfl
@[go_sem] theorem Try.asize138 : aSize Try.prog 138 = some 2 := by kernel_rfl
@[go_sem] theorem Try.abytes138 : aBytes Try.prog 138 = some 16 := by kernel_rfl
@[go_sem] theorem Try.aagg138 : aAgg Try.prog 138 = some true := by kernel_rfl
@[go_sem] theorem Try.afield138_0 : aField Try.prog 138 0 = some (0, 1) := by kernel_rfl
@[go_sem] theorem Try.afield138_1 : aField Try.prog 138 1 = some (1, 1) := by kernel_rfl
@[go_sem] theorem Try.afieldsok138 : aFieldsOk Try.prog 138 = true := by kernel_rfl
@[go_sem] theorem Try.azero138 : aZero Try.prog 138 = some [.sc (.int .i64 (0)), .sc (.int .i64 (0))] := by kernel_rfl
@[go_sem] theorem Try.asize150 : aSize Try.prog 150 = some 1 := by kernel_rfl
@[go_sem] theorem Try.aagg150 : aAgg Try.prog 150 = some false := by kernel_rfl
@[go_sem] theorem Try.abody4 : aBody Try.prog 4 = true := by kernel_rfl
@[go_sem] theorem Try.abody5 : aBody Try.prog 5 = true := by kernel_rfl
@[go_sem] theorem Try.abody6 : aBody Try.prog 6 = true := by kernel_rfl
@[go_sem] theorem Try.abody7 : aBody Try.prog 7 = true := by kernel_rfl
@[go_sem] theorem Try.abody8 : aBody Try.prog 8 = true := by kernel_rfl
@[go_sem] theorem Try.abody9 : aBody Try.prog 9 = true := by kernel_rfl
@[go_sem] theorem Try.abody10 : aBody Try.prog 10 = true := by kernel_rfl
@[go_sem] theorem Try.abody12 : aBody Try.prog 12 = true := by kernel_rfl
@[go_sem] theorem Try.abody13 : aBody Try.prog 13 = true := by kernel_rfl
@[go_sem] theorem Try.abody14 : aBody Try.prog 14 = true := by kernel_rfl
@[go_sem] theorem Try.abody15 : aBody Try.prog 15 = true := by kernel_rfl
@[go_sem] theorem Try.abody16 : aBody Try.prog 16 = true := by kernel_rfl
@[go_sem] theorem Try.abody17 : aBody Try.prog 17 = true := by kernel_rfl
@[go_sem] theorem Try.abody18 : aBody Try.prog 18 = true := by kernel_rfl
@[go_sem] theorem Try.abody19 : aBody Try.prog 19 = true := by kernel_rfl
@[go_sem] theorem Try.abody20 : aBody Try.prog 20 = true := by kernel_rfl
@[go_sem] theorem Try.abody21 : aBody Try.prog 21 = true := by kernel_rfl
@[go_sem] theorem Try.abody22 : aBody Try.prog 22 = true := by kernel_rfl
@[go_sem] theorem Try.abody23 : aBody Try.prog 23 = true := by kernel_rfl
@[go_sem] theorem Try.abody24 : aBody Try.prog 24 = true := by kernel_rfl
@[go_sem] theorem Try.abody25 : aBody Try.prog 25 = true := by kernel_rfl
@[go_sem] theorem Try.abody26 : aBody Try.prog 26 = true := by kernel_rfl
@[go_sem] theorem Try.abody27 : aBody Try.prog 27 = true := by kernel_rfl
@[go_sem] theorem Try.abody28 : aBody Try.prog 28 = true := by kernel_rfl
@[go_sem] theorem Try.abody29 : aBody Try.prog 29 = true := by kernel_rfl
@[go_sem] theorem Try.abody30 : aBody Try.prog 30 = true := by kernel_rfl
@[go_sem] theorem Try.abody31 : aBody Try.prog 31 = true := by kernel_rfl
@[go_sem] theorem Try.abody32 : aBody Try.prog 32 = true := by kernel_rfl
@[go_sem] theorem Try.abody33 : aBody Try.prog 33 = true := by kernel_rfl
@[go_sem] theorem Try.abody34 : aBody Try.prog 34 = true := by kernel_rfl
@[go_sem] theorem Try.abody35 : aBody Try.prog 35 = true := by kernel_rfl
@[go_sem] theorem Try.abody36 : aBody Try.prog 36 = true := by kernel_rfl
@[go_sem] theorem Try.abody37 : aBody Try.prog 37 = true := by kernel_rfl
@[go_sem] theorem Try.abody39 : aBody Try.prog 39 = true := by kernel_rfl
@[go_sem] theorem Try.abody40 : aBody Try.prog 40 = true := by kernel_rfl
@[go_sem] theorem Try.abody41 : aBody Try.prog 41 = true := by kernel_rfl
@[go_sem] theorem Try.abody42 : aBody Try.prog 42 = true := by kernel_rfl
@[go_sem] theorem Try.abody43 : aBody Try.prog 43 = true := by kernel_rfl
@[go_sem] theorem Try.abody45 : aBody Try.prog 45 = true := by kernel_rfl
@[go_sem] theorem Try.abody47 : aBody Try.prog 47 = true := by kernel_rfl
@[go_sem] theorem Try.abody49 : aBody Try.prog 49 = true := by kernel_rfl
@[go_sem] theorem Try.abody50 : aBody Try.prog 50 = true := by kernel_rfl
@[go_sem] theorem Try.abody51 : aBody Try.prog 51 = true := by kernel_rfl
@[go_sem] theorem Try.abody52 : aBody Try.prog 52 = true := by kernel_rfl
@[go_sem] theorem Try.abody53 : aBody Try.prog 53 = true := by kernel_rfl
@[go_sem] theorem Try.abody54 : aBody Try.prog 54 = true := by kernel_rfl
@[go_sem] theorem Try.abody55 : aBody Try.prog 55 = true := by kernel_rfl
@[go_sem] theorem Try.abody56 : aBody Try.prog 56 = true := by kernel_rfl
@[go_sem] theorem Try.abody61 : aBody Try.prog 61 = true := by kernel_rfl
@[go_sem] theorem Try.abody63 : aBody Try.prog 63 = true := by kernel_rfl
@[go_sem] theorem Try.abody64 : aBody Try.prog 64 = true := by kernel_rfl
@[go_sem] theorem Try.abody65 : aBody Try.prog 65 = true := by kernel_rfl
@[go_sem] theorem Try.abody66 : aBody Try.prog 66 = true := by kernel_rfl
@[go_sem] theorem Try.abody67 : aBody Try.prog 67 = true := by kernel_rfl
@[go_sem] theorem Try.abody68 : aBody Try.prog 68 = true := by kernel_rfl
@[go_sem] theorem Try.abody69 : aBody Try.prog 69 = true := by kernel_rfl
@[go_sem] theorem Try.abody71 : aBody Try.prog 71 = true := by kernel_rfl
@[go_sem] theorem Try.abody72 : aBody Try.prog 72 = true := by kernel_rfl
@[go_sem] theorem Try.abody73 : aBody Try.prog 73 = true := by kernel_rfl
@[go_sem] theorem Try.abody77 : aBody Try.prog 77 = true := by kernel_rfl
@[go_sem] theorem Try.abody80 : aBody Try.prog 80 = true := by kernel_rfl
@[go_sem] theorem Try.abody85 : aBody Try.prog 85 = true := by kernel_rfl
@[go_sem] theorem Try.abody90 : aBody Try.prog 90 = true := by kernel_rfl
@[go_sem] theorem Try.mixed : Try.prog.follows .mixedOrders = true := by kernel_rfl
end Go.Proofs
