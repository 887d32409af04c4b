import Derived.Test.YtnjiphlokjfdlaaGreatDoorProg
import Derived.Test.YtnjiphlokjfdlaaGreatDoorA9
import Derived.KernelRfl
namespace Go.Proofs
open Go Go.AL
@[go_sem] theorem Tryz.asize3 : aSize Tryz.prog 3 = some 1 := by kernel_rfl
@[go_sem] theorem Tryz.aagg3 : aAgg Tryz.prog 3 = some false := by kernel_rfl
@[go_sem] theorem Tryz.azero3 : aZero Tryz.prog 3 = some [.sc (.int .i64 (0))] := by kernel_rfl
@[go_sem] theorem Tryz.asize4 : aSize Tryz.prog 4 = some 1 := by kernel_rfl
@[go_sem] theorem Tryz.aagg4 : aAgg Tryz.prog 4 = some false := by kernel_rfl
@[go_sem] theorem Tryz.aund4 : Tryz.prog.underlying 4 = some .bool := by kernel_rfl
@[go_sem] theorem Tryz.asize5 : aSize Tryz.prog 5 = some 1 := by kernel_rfl
@[go_sem] theorem Tryz.abytes5 : aBytes Tryz.prog 5 = some 1 := by kernel_rfl
@[go_sem] theorem Tryz.aagg5 : aAgg Tryz.prog 5 = some false := by kernel_rfl
@[go_sem] theorem Tryz.azero5 : aZero Tryz.prog 5 = some [.sc (.int .u8 (0))] := by kernel_rfl
@[go_sem] theorem Tryz.asize9 : aSize Tryz.prog 9 = some 1 := by kernel_rfl
@[go_sem] theorem Tryz.abytes9 : aBytes Tryz.prog 9 = some 16 := by kernel_rfl
@[go_sem] theorem Tryz.aagg9 : aAgg Tryz.prog 9 = some false := by kernel_rfl
@[go_sem] theorem Tryz.aund9 : Tryz.prog.underlying 9 = some .string := by kernel_rfl
@[go_sem] theorem Tryz.azero9 : aZero Tryz.prog 9 = some [.sc (.string ⟨#[]⟩)] := by kernel_rfl
@[go_sem] theorem Tryz.asize22 : aSize Tryz.prog 22 = some 1 := by kernel_rfl
@[go_sem] theorem Tryz.aagg22 : aAgg Tryz.prog 22 = some false := by kernel_rfl
@[go_sem] theorem Tryz.aelem22 : aElem Tryz.prog 22 = some 9 := by kernel_rfl
@[go_sem] theorem Tryz.asize23 : aSize Tryz.prog 23 = some 1 := by kernel_rfl
@[go_sem] theorem Tryz.aagg23 : aAgg Tryz.prog 23 = some false := by kernel_rfl
@[go_sem] theorem Tryz.aelem23 : aElem Tryz.prog 23 = some 25 := by kernel_rfl
@[go_sem] theorem Tryz.asize25 : aSize Tryz.prog 25 = some 6 := by kernel_rfl
@[go_sem] theorem Tryz.abytes25 : aBytes Tryz.prog 25 = some 88 := by kernel_rfl
@[go_sem] theorem Tryz.aagg25 : aAgg Tryz.prog 25 = some true := by kernel_rfl
@[go_sem] theorem Tryz.afield25_0 : aField Tryz.prog 25 0 = some (0,1) := by kernel_rfl
@[go_sem] theorem Tryz.afield25_1 : aField Tryz.prog 25 1 = some (1,1) := by kernel_rfl
@[go_sem] theorem Tryz.afield25_2 : aField Tryz.prog 25 2 = some (2,1) := by kernel_rfl
@[go_sem] theorem Tryz.afield25_3 : aField Tryz.prog 25 3 = some (3,1) := by kernel_rfl
@[go_sem] theorem Tryz.afield25_4 : aField Tryz.prog 25 4 = some (4,1) := by kernel_rfl
@[go_sem] theorem Tryz.afield25_5 : aField Tryz.prog 25 5 = some (5,1) := by kernel_rfl
@[go_sem] theorem Tryz.afieldsok25 : aFieldsOk Tryz.prog 25 = true := by kernel_rfl
@[go_sem] theorem Tryz.azero25 : aZero Tryz.prog 25 = some [.sc (.int .i64 (0)),.sc (.string ⟨#[]⟩),.sc (.int .i64 (0)),.sc (.int .i64 (0)),.slice .full 0 [],.slice .full 0 []] := by kernel_rfl
@[go_sem] theorem Tryz.asize26 : aSize Tryz.prog 26 = some 1 := by kernel_rfl
@[go_sem] theorem Tryz.aagg26 : aAgg Tryz.prog 26 = some false := by kernel_rfl
@[go_sem] theorem Tryz.asize34 : aSize Tryz.prog 34 = some 1 := by kernel_rfl
@[go_sem] theorem Tryz.aagg34 : aAgg Tryz.prog 34 = some false := by kernel_rfl
@[go_sem] theorem Tryz.aelem34 : aElem Tryz.prog 34 = some 48 := by kernel_rfl
@[go_sem] theorem Tryz.afield39_0 : aField Tryz.prog 39 0 = some (0,1) := by kernel_rfl
@[go_sem] theorem Tryz.afield39_1 : aField Tryz.prog 39 1 = some (1,1) := by kernel_rfl
@[go_sem] theorem Tryz.afield39_2 : aField Tryz.prog 39 2 = some (2,1) := by kernel_rfl
@[go_sem] theorem Tryz.afield39_3 : aField Tryz.prog 39 3 = some (3,1) := by kernel_rfl
@[go_sem] theorem Tryz.afield39_4 : aField Tryz.prog 39 4 = some (4,1) := by kernel_rfl
@[go_sem] theorem Tryz.afield39_5 : aField Tryz.prog 39 5 = some (5,1) := by kernel_rfl
@[go_sem] theorem Tryz.afieldsok39 : aFieldsOk Tryz.prog 39 = true := by kernel_rfl
@[go_sem] theorem Tryz.azero39 : aZero Tryz.prog 39 = some [.slice .full 0 [],.sc (.int .i64 (0)),.sc (.int .i64 (0)),.sc (.int .i64 (0)),.sc (.bool false),.sc (.int .i64 (0))] := by kernel_rfl
@[go_sem] theorem Tryz.asize48 : aSize Tryz.prog 48 = some 4 := by kernel_rfl
@[go_sem] theorem Tryz.abytes48 : aBytes Tryz.prog 48 = some 40 := by kernel_rfl
@[go_sem] theorem Tryz.aagg48 : aAgg Tryz.prog 48 = some true := by kernel_rfl
@[go_sem] theorem Tryz.afield48_0 : aField Tryz.prog 48 0 = some (0,1) := by kernel_rfl
@[go_sem] theorem Tryz.afield48_1 : aField Tryz.prog 48 1 = some (1,1) := by kernel_rfl
@[go_sem] theorem Tryz.afield48_2 : aField Tryz.prog 48 2 = some (2,1) := by kernel_rfl
@[go_sem] theorem Tryz.afield48_3 : aField Tryz.prog 48 3 = some (3,1) := by kernel_rfl
@[go_sem] theorem Tryz.afieldsok48 : aFieldsOk Tryz.prog 48 = true := by kernel_rfl
@[go_sem] theorem Tryz.azero48 : aZero Tryz.prog 48 = some [.sc (.int .i64 (0)),.sc (.string ⟨#[]⟩),.sc (.int .i64 (0)),.sc (.int .i64 (0))] := by kernel_rfl
@[go_sem] theorem Tryz.asize55 : aSize Tryz.prog 55 = some 1 := by kernel_rfl
@[go_sem] theorem Tryz.aagg55 : aAgg Tryz.prog 55 = some false := by kernel_rfl
@[go_sem] theorem Tryz.afield57_0 : aField Tryz.prog 57 0 = some (0,1) := by kernel_rfl
@[go_sem] theorem Tryz.afield57_1 : aField Tryz.prog 57 1 = some (1,1) := by kernel_rfl
@[go_sem] theorem Tryz.afield57_2 : aField Tryz.prog 57 2 = some (2,1) := by kernel_rfl
@[go_sem] theorem Tryz.afield57_3 : aField Tryz.prog 57 3 = some (3,1) := by kernel_rfl
@[go_sem] theorem Tryz.afield57_4 : aField Tryz.prog 57 4 = some (4,1) := by kernel_rfl
@[go_sem] theorem Tryz.afield57_5 : aField Tryz.prog 57 5 = some (5,1) := by kernel_rfl
@[go_sem] theorem Tryz.afieldsok57 : aFieldsOk Tryz.prog 57 = true := by kernel_rfl
@[go_sem] theorem Tryz.azero57 : aZero Tryz.prog 57 = some [.slice .full 0 [],.sc (.int .i64 (0)),.sc (.int .i64 (0)),.sc (.bool false),.sc (.int .i64 (0)),.sc (.int .i64 (0))] := by kernel_rfl
@[go_sem] theorem Tryz.afield63_0 : aField Tryz.prog 63 0 = some (0,1) := by kernel_rfl
@[go_sem] theorem Tryz.afield63_1 : aField Tryz.prog 63 1 = some (1,1) := by kernel_rfl
@[go_sem] theorem Tryz.afieldsok63 : aFieldsOk Tryz.prog 63 = true := by kernel_rfl
@[go_sem] theorem Tryz.azero63 : aZero Tryz.prog 63 = some [.sc (.string ⟨#[]⟩),.sc (.int .i64 (0))] := by kernel_rfl
@[go_sem] theorem Tryz.aelem70 : aElem Tryz.prog 70 = some 5 := by kernel_rfl
@[go_sem] theorem Tryz.aelem99 : aElem Tryz.prog 99 = some 3 := by kernel_rfl
theorem Tryz.amap104 : aMap Tryz.prog 104 = some (5,.int .u8,5) := by kernel_rfl
@[go_sem] theorem Tryz.asize106 : aSize Tryz.prog 106 = some 16 := by kernel_rfl
@[go_sem] theorem Tryz.aagg106 : aAgg Tryz.prog 106 = some true := by kernel_rfl
@[go_sem] theorem Tryz.aarr106 : aArr Tryz.prog 106 = some (16,1) := by kernel_rfl
@[go_sem] theorem Tryz.azero106 : aZero Tryz.prog 106 = some [.sc (.int .u8 (0)),.sc (.int .u8 (0)),.sc (.int .u8 (0)),.sc (.int .u8 (0)),.sc (.int .u8 (0)),.sc (.int .u8 (0)),.sc (.int .u8 (0)),.sc (.int .u8 (0)),.sc (.int .u8 (0)),.sc (.int .u8 (0)),.sc (.int .u8 (0)),.sc (.int .u8 (0)),.sc (.int .u8 (0)),.sc (.int .u8 (0)),.sc (.int .u8 (0)),.sc (.int .u8 (0))] := by kernel_rfl
theorem Tryz.amap116 : aMap Tryz.prog 116 = some (3,.int .i64,3) := by kernel_rfl
theorem Tryz.zeroSV3 : zeroSV Tryz.prog 3 = some (.sc (.int .i64 (0))) := by kernel_rfl
@[go_sem] theorem Tryz.abody4 : aBody Tryz.prog 4 = true := by kernel_rfl
@[go_sem] theorem Tryz.abody5 : aBody Tryz.prog 5 = true := by kernel_rfl
@[go_sem] theorem Tryz.abody6 : aBody Tryz.prog 6 = true := by kernel_rfl
@[go_sem] theorem Tryz.abody7 : aBody Tryz.prog 7 = true := by kernel_rfl
@[go_sem] theorem Tryz.abody8 : aBody Tryz.prog 8 = true := by kernel_rfl
@[go_sem] theorem Tryz.abody9 : aBody Tryz.prog 9 = true := by kernel_rfl
@[go_sem] theorem Tryz.abody10 : aBody Tryz.prog 10 = true := by kernel_rfl
@[go_sem] theorem Tryz.abody11 : aBody Tryz.prog 11 = true := by kernel_rfl
@[go_sem] theorem Tryz.abody12 : aBody Tryz.prog 12 = true := by kernel_rfl
@[go_sem] theorem Tryz.abody13 : aBody Tryz.prog 13 = true := by kernel_rfl
@[go_sem] theorem Tryz.abody14 : aBody Tryz.prog 14 = true := by kernel_rfl
@[go_sem] theorem Tryz.abody15 : aBody Tryz.prog 15 = true := by kernel_rfl
@[go_sem] theorem Tryz.abody16 : aBody Tryz.prog 16 = true := by kernel_rfl
@[go_sem] theorem Tryz.abody17 : aBody Tryz.prog 17 = true := by kernel_rfl
@[go_sem] theorem Tryz.abody18 : aBody Tryz.prog 18 = true := by kernel_rfl
@[go_sem] theorem Tryz.abody19 : aBody Tryz.prog 19 = true := by kernel_rfl
@[go_sem] theorem Tryz.abody20 : aBody Tryz.prog 20 = true := by kernel_rfl
@[go_sem] theorem Tryz.abody21 : aBody Tryz.prog 21 = true := by kernel_rfl
@[go_sem] theorem Tryz.abody22 : aBody Tryz.prog 22 = true := by kernel_rfl
@[go_sem] theorem Tryz.abody23 : aBody Tryz.prog 23 = true := by kernel_rfl
@[go_sem] theorem Tryz.abody24 : aBody Tryz.prog 24 = true := by kernel_rfl
@[go_sem] theorem Tryz.abody25 : aBody Tryz.prog 25 = true := by kernel_rfl
@[go_sem] theorem Tryz.abody26 : aBody Tryz.prog 26 = true := by kernel_rfl
@[go_sem] theorem Tryz.abody27 : aBody Tryz.prog 27 = true := by kernel_rfl
@[go_sem] theorem Tryz.abody28 : aBody Tryz.prog 28 = true := by kernel_rfl
@[go_sem] theorem Tryz.abody29 : aBody Tryz.prog 29 = true := by kernel_rfl
@[go_sem] theorem Tryz.abody30 : aBody Tryz.prog 30 = true := by kernel_rfl
@[go_sem] theorem Tryz.abody31 : aBody Tryz.prog 31 = true := by kernel_rfl
@[go_sem] theorem Tryz.abody32 : aBody Tryz.prog 32 = true := by kernel_rfl
@[go_sem] theorem Tryz.abody33 : aBody Tryz.prog 33 = true := by kernel_rfl
@[go_sem] theorem Tryz.abody34 : aBody Tryz.prog 34 = true := by kernel_rfl
@[go_sem] theorem Tryz.abody35 : aBody Tryz.prog 35 = true := by kernel_rfl
@[go_sem] theorem Tryz.abody36 : aBody Tryz.prog 36 = true := by kernel_rfl
@[go_sem] theorem Tryz.abody37 : aBody Tryz.prog 37 = true := by kernel_rfl
@[go_sem] theorem Tryz.abody38 : aBody Tryz.prog 38 = true := by kernel_rfl
@[go_sem] theorem Tryz.abody39 : aBody Tryz.prog 39 = true := by kernel_rfl
@[go_sem] theorem Tryz.abody40 : aBody Tryz.prog 40 = true := by kernel_rfl
@[go_sem] theorem Tryz.abody41 : aBody Tryz.prog 41 = true := by kernel_rfl
@[go_sem] theorem Tryz.abody42 : aBody Tryz.prog 42 = true := by kernel_rfl
@[go_sem] theorem Tryz.abody43 : aBody Tryz.prog 43 = true := by kernel_rfl
@[go_sem] theorem Tryz.abody44 : aBody Tryz.prog 44 = true := by kernel_rfl
@[go_sem] theorem Tryz.abody46 : aBody Tryz.prog 46 = true := by kernel_rfl
@[go_sem] theorem Tryz.abody47 : aBody Tryz.prog 47 = true := by kernel_rfl
@[go_sem] theorem Tryz.abody48 : aBody Tryz.prog 48 = true := by kernel_rfl
@[go_sem] theorem Tryz.abody49 : aBody Tryz.prog 49 = true := by kernel_rfl
@[go_sem] theorem Tryz.abody50 : aBody Tryz.prog 50 = true := by kernel_rfl
@[go_sem] theorem Tryz.abody51 : aBody Tryz.prog 51 = true := by kernel_rfl
@[go_sem] theorem Tryz.abody52 : aBody Tryz.prog 52 = true := by kernel_rfl
@[go_sem] theorem Tryz.abody53 : aBody Tryz.prog 53 = true := by kernel_rfl
@[go_sem] theorem Tryz.abody54 : aBody Tryz.prog 54 = true := by kernel_rfl
@[go_sem] theorem Tryz.abody55 : aBody Tryz.prog 55 = true := by kernel_rfl
@[go_sem] theorem Tryz.abody56 : aBody Tryz.prog 56 = true := by kernel_rfl
@[go_sem] theorem Tryz.abody57 : aBody Tryz.prog 57 = true := by kernel_rfl
@[go_sem] theorem Tryz.abody58 : aBody Tryz.prog 58 = true := by kernel_rfl
@[go_sem] theorem Tryz.abody59 : aBody Tryz.prog 59 = true := by kernel_rfl
@[go_sem] theorem Tryz.abody60 : aBody Tryz.prog 60 = true := by kernel_rfl
@[go_sem] theorem Tryz.abody61 : aBody Tryz.prog 61 = true := by kernel_rfl
@[go_sem] theorem Tryz.abody62 : aBody Tryz.prog 62 = true := by kernel_rfl
@[go_sem] theorem Tryz.abody63 : aBody Tryz.prog 63 = true := by kernel_rfl
@[go_sem] theorem Tryz.abody65 : aBody Tryz.prog 65 = true := by kernel_rfl
@[go_sem] theorem Tryz.abody66 : aBody Tryz.prog 66 = true := by kernel_rfl
@[go_sem] theorem Tryz.abody67 : aBody Tryz.prog 67 = true := by kernel_rfl
@[go_sem] theorem Tryz.abody68 : aBody Tryz.prog 68 = true := by kernel_rfl
@[go_sem] theorem Tryz.abody69 : aBody Tryz.prog 69 = true := by kernel_rfl
@[go_sem] theorem Tryz.abody70 : aBody Tryz.prog 70 = true := by kernel_rfl
@[go_sem] theorem Tryz.abody71 : aBody Tryz.prog 71 = true := by kernel_rfl
@[go_sem] theorem Tryz.abody73 : aBody Tryz.prog 73 = true := by kernel_rfl
@[go_sem] theorem Tryz.abody74 : aBody Tryz.prog 74 = true := by kernel_rfl
@[go_sem] theorem Tryz.abody75 : aBody Tryz.prog 75 = true := by kernel_rfl
@[go_sem] theorem Tryz.abody76 : aBody Tryz.prog 76 = true := by kernel_rfl
@[go_sem] theorem Tryz.abody77 : aBody Tryz.prog 77 = true := by kernel_rfl
@[go_sem] theorem Tryz.abody78 : aBody Tryz.prog 78 = true := by kernel_rfl
@[go_sem] theorem Tryz.abody79 : aBody Tryz.prog 79 = true := by kernel_rfl
@[go_sem] theorem Tryz.abody80 : aBody Tryz.prog 80 = true := by kernel_rfl
@[go_sem] theorem Tryz.abody81 : aBody Tryz.prog 81 = true := by kernel_rfl
@[go_sem] theorem Tryz.abody82 : aBody Tryz.prog 82 = true := by kernel_rfl
@[go_sem] theorem Tryz.abody87 : aBody Tryz.prog 87 = true := by kernel_rfl
@[go_sem] theorem Tryz.abody88 : aBody Tryz.prog 88 = true := by kernel_rfl
@[go_sem] theorem Tryz.abody89 : aBody Tryz.prog 89 = true := by kernel_rfl
@[go_sem] theorem Tryz.abody90 : aBody Tryz.prog 90 = true := by kernel_rfl
@[go_sem] theorem Tryz.abody91 : aBody Tryz.prog 91 = true := by kernel_rfl
@[go_sem] theorem Tryz.abody95 : aBody Tryz.prog 95 = true := by kernel_rfl
@[go_sem] theorem Tryz.abody96 : aBody Tryz.prog 96 = true := by kernel_rfl
@[go_sem] theorem Tryz.abody97 : aBody Tryz.prog 97 = true := by kernel_rfl
@[go_sem] theorem Tryz.abody98 : aBody Tryz.prog 98 = true := by kernel_rfl
@[go_sem] theorem Tryz.abody99 : aBody Tryz.prog 99 = true := by kernel_rfl
@[go_sem] theorem Tryz.abody103 : aBody Tryz.prog 103 = true := by kernel_rfl
@[go_sem] theorem Tryz.abody104 : aBody Tryz.prog 104 = true := by kernel_rfl
@[go_sem] theorem Tryz.abody105 : aBody Tryz.prog 105 = true := by kernel_rfl
@[go_sem] theorem Tryz.abody107 : aBody Tryz.prog 107 = true := by kernel_rfl
@[go_sem] theorem Tryz.abody108 : aBody Tryz.prog 108 = true := by kernel_rfl
@[go_sem] theorem Tryz.abody109 : aBody Tryz.prog 109 = true := by kernel_rfl
@[go_sem] theorem Tryz.abody110 : aBody Tryz.prog 110 = true := by kernel_rfl
@[go_sem] theorem Tryz.abody111 : aBody Tryz.prog 111 = true := by kernel_rfl
@[go_sem] theorem Tryz.abody112 : aBody Tryz.prog 112 = true := by kernel_rfl
@[go_sem] theorem Tryz.abody113 : aBody Tryz.prog 113 = true := by kernel_rfl
@[go_sem] theorem Tryz.abody114 : aBody Tryz.prog 114 = true := by kernel_rfl
@[go_sem] theorem Tryz.abody118 : aBody Tryz.prog 118 = true := by kernel_rfl
@[go_sem] theorem Tryz.abody119 : aBody Tryz.prog 119 = true := by kernel_rfl
@[go_sem] theorem Tryz.abody120 : aBody Tryz.prog 120 = true := by kernel_rfl
@[go_sem] theorem Tryz.abody121 : aBody Tryz.prog 121 = true := by kernel_rfl
@[go_sem] theorem Tryz.abody122 : aBody Tryz.prog 122 = true := by kernel_rfl
@[go_sem] theorem Tryz.abody129 : aBody Tryz.prog 129 = true := by kernel_rfl
@[go_sem] theorem Tryz.mixed : Tryz.prog.follows .mixedOrders = true := by kernel_rfl
end Go.Proofs
