/- The facts on the types of this seat's program that the walks ask: printed by facts.sh, each reckoned by the kernel. -/
import Derived.Test.YtnjiphlokjfdlaaDoorProg
import Derived.Test.YtnjiphlokjfdlaaDoorA9
import Derived.KernelRfl
namespace Go.Proofs
open Go Go.AL
@[go_sem] theorem Tryd.asize3 : aSize Tryd.prog 3 = some 1 := by kernel_rfl
@[go_sem] theorem Tryd.aagg3 : aAgg Tryd.prog 3 = some false := by kernel_rfl
@[go_sem] theorem Tryd.asize4 : aSize Tryd.prog 4 = some 1 := by kernel_rfl
@[go_sem] theorem Tryd.aagg4 : aAgg Tryd.prog 4 = some false := by kernel_rfl
@[go_sem] theorem Tryd.asize5 : aSize Tryd.prog 5 = some 1 := by kernel_rfl
@[go_sem] theorem Tryd.abytes5 : aBytes Tryd.prog 5 = some 1 := by kernel_rfl
@[go_sem] theorem Tryd.aagg5 : aAgg Tryd.prog 5 = some false := by kernel_rfl
@[go_sem] theorem Tryd.azero5 : aZero Tryd.prog 5 = some [.sc (.int .u8 (0))] := by kernel_rfl
@[go_sem] theorem Tryd.asize9 : aSize Tryd.prog 9 = some 1 := by kernel_rfl
@[go_sem] theorem Tryd.abytes9 : aBytes Tryd.prog 9 = some 16 := by kernel_rfl
@[go_sem] theorem Tryd.aagg9 : aAgg Tryd.prog 9 = some false := by kernel_rfl
@[go_sem] theorem Tryd.aund9 : Tryd.prog.underlying 9 = some .string := by kernel_rfl
@[go_sem] theorem Tryd.azero9 : aZero Tryd.prog 9 = some [.sc (.string ⟨#[]⟩)] := by kernel_rfl
@[go_sem] theorem Tryd.asize22 : aSize Tryd.prog 22 = some 1 := by kernel_rfl
@[go_sem] theorem Tryd.aagg22 : aAgg Tryd.prog 22 = some false := by kernel_rfl
@[go_sem] theorem Tryd.aelem22 : aElem Tryd.prog 22 = some 9 := by kernel_rfl
@[go_sem] theorem Tryd.asize25 : aSize Tryd.prog 25 = some 1 := by kernel_rfl
@[go_sem] theorem Tryd.aagg25 : aAgg Tryd.prog 25 = some false := by kernel_rfl
@[go_sem] theorem Tryd.aelem25 : aElem Tryd.prog 25 = some 27 := by kernel_rfl
@[go_sem] theorem Tryd.asize27 : aSize Tryd.prog 27 = some 6 := by kernel_rfl
@[go_sem] theorem Tryd.abytes27 : aBytes Tryd.prog 27 = some 88 := by kernel_rfl
@[go_sem] theorem Tryd.aagg27 : aAgg Tryd.prog 27 = some true := by kernel_rfl
@[go_sem] theorem Tryd.afield27_0 : aField Tryd.prog 27 0 = some (0, 1) := by kernel_rfl
@[go_sem] theorem Tryd.afield27_1 : aField Tryd.prog 27 1 = some (1, 1) := by kernel_rfl
@[go_sem] theorem Tryd.afield27_2 : aField Tryd.prog 27 2 = some (2, 1) := by kernel_rfl
@[go_sem] theorem Tryd.afield27_3 : aField Tryd.prog 27 3 = some (3, 1) := by kernel_rfl
@[go_sem] theorem Tryd.afield27_4 : aField Tryd.prog 27 4 = some (4, 1) := by kernel_rfl
@[go_sem] theorem Tryd.afield27_5 : aField Tryd.prog 27 5 = some (5, 1) := by kernel_rfl
@[go_sem] theorem Tryd.afieldsok27 : aFieldsOk Tryd.prog 27 = true := by kernel_rfl
@[go_sem] theorem Tryd.azero27 : aZero Tryd.prog 27 = some [.sc (.int .i64 (0)), .sc (.string ⟨#[]⟩), .sc (.int .i64 (0)), .sc (.int .i64 (0)), .slice .full 0 [], .slice .full 0 []] := by kernel_rfl
@[go_sem] theorem Tryd.asize28 : aSize Tryd.prog 28 = some 1 := by kernel_rfl
@[go_sem] theorem Tryd.aagg28 : aAgg Tryd.prog 28 = some false := by kernel_rfl
@[go_sem] theorem Tryd.asize35 : aSize Tryd.prog 35 = some 1 := by kernel_rfl
@[go_sem] theorem Tryd.aagg35 : aAgg Tryd.prog 35 = some false := by kernel_rfl
@[go_sem] theorem Tryd.aelem35 : aElem Tryd.prog 35 = some 39 := by kernel_rfl
@[go_sem] theorem Tryd.asize39 : aSize Tryd.prog 39 = some 4 := by kernel_rfl
@[go_sem] theorem Tryd.abytes39 : aBytes Tryd.prog 39 = some 40 := by kernel_rfl
@[go_sem] theorem Tryd.aagg39 : aAgg Tryd.prog 39 = some true := by kernel_rfl
@[go_sem] theorem Tryd.afield39_0 : aField Tryd.prog 39 0 = some (0, 1) := by kernel_rfl
@[go_sem] theorem Tryd.afield39_1 : aField Tryd.prog 39 1 = some (1, 1) := by kernel_rfl
@[go_sem] theorem Tryd.afield39_2 : aField Tryd.prog 39 2 = some (2, 1) := by kernel_rfl
@[go_sem] theorem Tryd.afield39_3 : aField Tryd.prog 39 3 = some (3, 1) := by kernel_rfl
@[go_sem] theorem Tryd.afieldsok39 : aFieldsOk Tryd.prog 39 = true := by kernel_rfl
@[go_sem] theorem Tryd.azero39 : aZero Tryd.prog 39 = some [.sc (.int .i64 (0)), .sc (.string ⟨#[]⟩), .sc (.int .i64 (0)), .sc (.int .i64 (0))] := by kernel_rfl
@[go_sem] theorem Tryd.asize44 : aSize Tryd.prog 44 = some 1 := by kernel_rfl
@[go_sem] theorem Tryd.aagg44 : aAgg Tryd.prog 44 = some false := by kernel_rfl
@[go_sem] theorem Tryd.afield46_0 : aField Tryd.prog 46 0 = some (0, 1) := by kernel_rfl
@[go_sem] theorem Tryd.afield46_1 : aField Tryd.prog 46 1 = some (1, 1) := by kernel_rfl
@[go_sem] theorem Tryd.afield46_2 : aField Tryd.prog 46 2 = some (2, 1) := by kernel_rfl
@[go_sem] theorem Tryd.afield46_3 : aField Tryd.prog 46 3 = some (3, 1) := by kernel_rfl
@[go_sem] theorem Tryd.afield46_4 : aField Tryd.prog 46 4 = some (4, 1) := by kernel_rfl
@[go_sem] theorem Tryd.afield46_5 : aField Tryd.prog 46 5 = some (5, 1) := by kernel_rfl
@[go_sem] theorem Tryd.afieldsok46 : aFieldsOk Tryd.prog 46 = true := by kernel_rfl
@[go_sem] theorem Tryd.azero46 : aZero Tryd.prog 46 = some [.slice .full 0 [], .sc (.int .i64 (0)), .sc (.int .i64 (0)), .sc (.bool false), .sc (.int .i64 (0)), .sc (.int .i64 (0))] := by kernel_rfl
@[go_sem] theorem Tryd.afield54_0 : aField Tryd.prog 54 0 = some (0, 1) := by kernel_rfl
@[go_sem] theorem Tryd.afield54_1 : aField Tryd.prog 54 1 = some (1, 1) := by kernel_rfl
@[go_sem] theorem Tryd.afieldsok54 : aFieldsOk Tryd.prog 54 = true := by kernel_rfl
@[go_sem] theorem Tryd.azero54 : aZero Tryd.prog 54 = some [.sc (.string ⟨#[]⟩), .sc (.int .i64 (0))] := by kernel_rfl
@[go_sem] theorem Tryd.aelem74 : aElem Tryd.prog 74 = some 5 := by kernel_rfl
theorem Tryd.amap100 : aMap Tryd.prog 100 = some (5, .int .u8, 5) := by kernel_rfl
@[go_sem] theorem Tryd.asize102 : aSize Tryd.prog 102 = some 16 := by kernel_rfl
@[go_sem] theorem Tryd.aagg102 : aAgg Tryd.prog 102 = some true := by kernel_rfl
@[go_sem] theorem Tryd.aarr102 : aArr Tryd.prog 102 = some (16, 1) := by kernel_rfl
@[go_sem] theorem Tryd.azero102 : aZero Tryd.prog 102 = some [.sc (.int .u8 (0)), .sc (.int .u8 (0)), .sc (.int .u8 (0)), .sc (.int .u8 (0)), .sc (.int .u8 (0)), .sc (.int .u8 (0)), .sc (.int .u8 (0)), .sc (.int .u8 (0)), .sc (.int .u8 (0)), .sc (.int .u8 (0)), .sc (.int .u8 (0)), .sc (.int .u8 (0)), .sc (.int .u8 (0)), .sc (.int .u8 (0)), .sc (.int .u8 (0)), .sc (.int .u8 (0))] := by kernel_rfl
theorem Tryd.amap111 : aMap Tryd.prog 111 = some (3, .int .i64, 3) := by kernel_rfl
theorem Tryd.zeroSV3 : zeroSV Tryd.prog 3 = some (.sc (.int .i64 (0))) := by kernel_rfl
@[go_sem] theorem Tryd.abody9 : aBody Tryd.prog 9 = true := by kernel_rfl
@[go_sem] theorem Tryd.abody10 : aBody Tryd.prog 10 = true := by kernel_rfl
@[go_sem] theorem Tryd.abody11 : aBody Tryd.prog 11 = true := by kernel_rfl
@[go_sem] theorem Tryd.abody12 : aBody Tryd.prog 12 = true := by kernel_rfl
@[go_sem] theorem Tryd.abody13 : aBody Tryd.prog 13 = true := by kernel_rfl
@[go_sem] theorem Tryd.abody16 : aBody Tryd.prog 16 = true := by kernel_rfl
@[go_sem] theorem Tryd.abody17 : aBody Tryd.prog 17 = true := by kernel_rfl
@[go_sem] theorem Tryd.abody18 : aBody Tryd.prog 18 = true := by kernel_rfl
@[go_sem] theorem Tryd.abody21 : aBody Tryd.prog 21 = true := by kernel_rfl
@[go_sem] theorem Tryd.abody22 : aBody Tryd.prog 22 = true := by kernel_rfl
@[go_sem] theorem Tryd.abody23 : aBody Tryd.prog 23 = true := by kernel_rfl
@[go_sem] theorem Tryd.abody24 : aBody Tryd.prog 24 = true := by kernel_rfl
@[go_sem] theorem Tryd.abody25 : aBody Tryd.prog 25 = true := by kernel_rfl
@[go_sem] theorem Tryd.abody26 : aBody Tryd.prog 26 = true := by kernel_rfl
@[go_sem] theorem Tryd.abody27 : aBody Tryd.prog 27 = true := by kernel_rfl
@[go_sem] theorem Tryd.abody28 : aBody Tryd.prog 28 = true := by kernel_rfl
@[go_sem] theorem Tryd.abody30 : aBody Tryd.prog 30 = true := by kernel_rfl
@[go_sem] theorem Tryd.abody31 : aBody Tryd.prog 31 = true := by kernel_rfl
@[go_sem] theorem Tryd.abody32 : aBody Tryd.prog 32 = true := by kernel_rfl
@[go_sem] theorem Tryd.abody33 : aBody Tryd.prog 33 = true := by kernel_rfl
@[go_sem] theorem Tryd.abody34 : aBody Tryd.prog 34 = true := by kernel_rfl
@[go_sem] theorem Tryd.abody35 : aBody Tryd.prog 35 = true := by kernel_rfl
@[go_sem] theorem Tryd.abody36 : aBody Tryd.prog 36 = true := by kernel_rfl
@[go_sem] theorem Tryd.abody37 : aBody Tryd.prog 37 = true := by kernel_rfl
@[go_sem] theorem Tryd.abody38 : aBody Tryd.prog 38 = true := by kernel_rfl
@[go_sem] theorem Tryd.abody39 : aBody Tryd.prog 39 = true := by kernel_rfl
@[go_sem] theorem Tryd.abody40 : aBody Tryd.prog 40 = true := by kernel_rfl
@[go_sem] theorem Tryd.abody41 : aBody Tryd.prog 41 = true := by kernel_rfl
@[go_sem] theorem Tryd.abody42 : aBody Tryd.prog 42 = true := by kernel_rfl
@[go_sem] theorem Tryd.abody43 : aBody Tryd.prog 43 = true := by kernel_rfl
@[go_sem] theorem Tryd.abody44 : aBody Tryd.prog 44 = true := by kernel_rfl
@[go_sem] theorem Tryd.abody45 : aBody Tryd.prog 45 = true := by kernel_rfl
@[go_sem] theorem Tryd.abody46 : aBody Tryd.prog 46 = true := by kernel_rfl
@[go_sem] theorem Tryd.abody47 : aBody Tryd.prog 47 = true := by kernel_rfl
@[go_sem] theorem Tryd.abody48 : aBody Tryd.prog 48 = true := by kernel_rfl
@[go_sem] theorem Tryd.abody49 : aBody Tryd.prog 49 = true := by kernel_rfl
@[go_sem] theorem Tryd.abody50 : aBody Tryd.prog 50 = true := by kernel_rfl
@[go_sem] theorem Tryd.abody52 : aBody Tryd.prog 52 = true := by kernel_rfl
@[go_sem] theorem Tryd.abody53 : aBody Tryd.prog 53 = true := by kernel_rfl
@[go_sem] theorem Tryd.abody54 : aBody Tryd.prog 54 = true := by kernel_rfl
@[go_sem] theorem Tryd.abody55 : aBody Tryd.prog 55 = true := by kernel_rfl
@[go_sem] theorem Tryd.abody56 : aBody Tryd.prog 56 = true := by kernel_rfl
@[go_sem] theorem Tryd.abody57 : aBody Tryd.prog 57 = true := by kernel_rfl
@[go_sem] theorem Tryd.abody58 : aBody Tryd.prog 58 = true := by kernel_rfl
@[go_sem] theorem Tryd.abody60 : aBody Tryd.prog 60 = true := by kernel_rfl
@[go_sem] theorem Tryd.abody61 : aBody Tryd.prog 61 = true := by kernel_rfl
@[go_sem] theorem Tryd.abody62 : aBody Tryd.prog 62 = true := by kernel_rfl
@[go_sem] theorem Tryd.abody63 : aBody Tryd.prog 63 = true := by kernel_rfl
@[go_sem] theorem Tryd.abody64 : aBody Tryd.prog 64 = true := by kernel_rfl
@[go_sem] theorem Tryd.abody65 : aBody Tryd.prog 65 = true := by kernel_rfl
@[go_sem] theorem Tryd.abody66 : aBody Tryd.prog 66 = true := by kernel_rfl
@[go_sem] theorem Tryd.abody67 : aBody Tryd.prog 67 = true := by kernel_rfl
@[go_sem] theorem Tryd.abody68 : aBody Tryd.prog 68 = true := by kernel_rfl
@[go_sem] theorem Tryd.abody73 : aBody Tryd.prog 73 = true := by kernel_rfl
@[go_sem] theorem Tryd.abody74 : aBody Tryd.prog 74 = true := by kernel_rfl
@[go_sem] theorem Tryd.abody75 : aBody Tryd.prog 75 = true := by kernel_rfl
@[go_sem] theorem Tryd.abody76 : aBody Tryd.prog 76 = true := by kernel_rfl
@[go_sem] theorem Tryd.abody77 : aBody Tryd.prog 77 = true := by kernel_rfl
@[go_sem] theorem Tryd.abody81 : aBody Tryd.prog 81 = true := by kernel_rfl
@[go_sem] theorem Tryd.abody82 : aBody Tryd.prog 82 = true := by kernel_rfl
@[go_sem] theorem Tryd.abody83 : aBody Tryd.prog 83 = true := by kernel_rfl
@[go_sem] theorem Tryd.abody87 : aBody Tryd.prog 87 = true := by kernel_rfl
@[go_sem] theorem Tryd.abody88 : aBody Tryd.prog 88 = true := by kernel_rfl
@[go_sem] theorem Tryd.abody89 : aBody Tryd.prog 89 = true := by kernel_rfl
@[go_sem] theorem Tryd.abody91 : aBody Tryd.prog 91 = true := by kernel_rfl
@[go_sem] theorem Tryd.abody92 : aBody Tryd.prog 92 = true := by kernel_rfl
@[go_sem] theorem Tryd.abody93 : aBody Tryd.prog 93 = true := by kernel_rfl
@[go_sem] theorem Tryd.abody94 : aBody Tryd.prog 94 = true := by kernel_rfl
@[go_sem] theorem Tryd.abody95 : aBody Tryd.prog 95 = true := by kernel_rfl
@[go_sem] theorem Tryd.abody99 : aBody Tryd.prog 99 = true := by kernel_rfl
@[go_sem] theorem Tryd.abody100 : aBody Tryd.prog 100 = true := by kernel_rfl
@[go_sem] theorem Tryd.abody101 : aBody Tryd.prog 101 = true := by kernel_rfl
@[go_sem] theorem Tryd.abody102 : aBody Tryd.prog 102 = true := by kernel_rfl
@[go_sem] theorem Tryd.abody109 : aBody Tryd.prog 109 = true := by kernel_rfl
@[go_sem] theorem Tryd.mixed : Tryd.prog.follows .mixedOrders = true := by kernel_rfl
end Go.Proofs
