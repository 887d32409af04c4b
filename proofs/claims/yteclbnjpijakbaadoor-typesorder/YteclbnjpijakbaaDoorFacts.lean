/- The facts on the types of this seat's program that the walks ask: printed by facts.sh, each reckoned by the kernel. -/
import Derived.Test.YteclbnjpijakbaaDoorProg
import Derived.Test.YteclbnjpijakbaaDoorA8
import Derived.KernelRfl
namespace Go.Proofs
open Go Go.AL
@[go_sem] theorem Tryd.asize3 : aSize Tryd.prog 3 = some 1 := by kernel_rfl
@[go_sem] theorem Tryd.abytes3 : aBytes Tryd.prog 3 = some 8 := by kernel_rfl
@[go_sem] theorem Tryd.aagg3 : aAgg Tryd.prog 3 = some false := by kernel_rfl
@[go_sem] theorem Tryd.azero3 : aZero Tryd.prog 3 = some [.sc (.int .i64 (0))] := by kernel_rfl
@[go_sem] theorem Tryd.asize4 : aSize Tryd.prog 4 = some 1 := by kernel_rfl
@[go_sem] theorem Tryd.abytes4 : aBytes Tryd.prog 4 = some 1 := by kernel_rfl
@[go_sem] theorem Tryd.aagg4 : aAgg Tryd.prog 4 = some false := by kernel_rfl
@[go_sem] theorem Tryd.aund4 : Tryd.prog.underlying 4 = some .bool := by kernel_rfl
@[go_sem] theorem Tryd.azero4 : aZero Tryd.prog 4 = some [.sc (.bool false)] := by kernel_rfl
@[go_sem] theorem Tryd.asize5 : aSize Tryd.prog 5 = some 1 := by kernel_rfl
@[go_sem] theorem Tryd.abytes5 : aBytes Tryd.prog 5 = some 1 := by kernel_rfl
@[go_sem] theorem Tryd.aagg5 : aAgg Tryd.prog 5 = some false := by kernel_rfl
@[go_sem] theorem Tryd.azero5 : aZero Tryd.prog 5 = some [.sc (.int .u8 (0))] := by kernel_rfl
@[go_sem] theorem Tryd.asize9 : aSize Tryd.prog 9 = some 1 := by kernel_rfl
@[go_sem] theorem Tryd.abytes9 : aBytes Tryd.prog 9 = some 16 := by kernel_rfl
@[go_sem] theorem Tryd.aagg9 : aAgg Tryd.prog 9 = some false := by kernel_rfl
@[go_sem] theorem Tryd.aund9 : Tryd.prog.underlying 9 = some .string := by kernel_rfl
@[go_sem] theorem Tryd.azero9 : aZero Tryd.prog 9 = some [.sc (.string ⟨#[]⟩)] := by kernel_rfl
@[go_sem] theorem Tryd.asize20 : aSize Tryd.prog 20 = some 1 := by kernel_rfl
@[go_sem] theorem Tryd.abytes20 : aBytes Tryd.prog 20 = some 16 := by kernel_rfl
@[go_sem] theorem Tryd.aagg20 : aAgg Tryd.prog 20 = some false := by kernel_rfl
@[go_sem] theorem Tryd.azero20 : aZero Tryd.prog 20 = some [.sc .nilIface] := by kernel_rfl
@[go_sem] theorem Tryd.asize21 : aSize Tryd.prog 21 = some 1 := by kernel_rfl
@[go_sem] theorem Tryd.abytes21 : aBytes Tryd.prog 21 = some 4 := by kernel_rfl
@[go_sem] theorem Tryd.aagg21 : aAgg Tryd.prog 21 = some false := by kernel_rfl
@[go_sem] theorem Tryd.azero21 : aZero Tryd.prog 21 = some [.sc (.int .i32 (0))] := by kernel_rfl
@[go_sem] theorem Tryd.asize22 : aSize Tryd.prog 22 = some 1 := by kernel_rfl
@[go_sem] theorem Tryd.abytes22 : aBytes Tryd.prog 22 = some 24 := by kernel_rfl
@[go_sem] theorem Tryd.aagg22 : aAgg Tryd.prog 22 = some false := by kernel_rfl
@[go_sem] theorem Tryd.aelem22 : aElem Tryd.prog 22 = some 44 := by kernel_rfl
@[go_sem] theorem Tryd.azero22 : aZero Tryd.prog 22 = some [.slice .full 0 []] := by kernel_rfl
@[go_sem] theorem Tryd.asize23 : aSize Tryd.prog 23 = some 1 := by kernel_rfl
@[go_sem] theorem Tryd.abytes23 : aBytes Tryd.prog 23 = some 24 := by kernel_rfl
@[go_sem] theorem Tryd.aagg23 : aAgg Tryd.prog 23 = some false := by kernel_rfl
@[go_sem] theorem Tryd.aelem23 : aElem Tryd.prog 23 = some 25 := by kernel_rfl
@[go_sem] theorem Tryd.azero23 : aZero Tryd.prog 23 = some [.slice .full 0 []] := by kernel_rfl
@[go_sem] theorem Tryd.asize25 : aSize Tryd.prog 25 = some 3 := by kernel_rfl
@[go_sem] theorem Tryd.abytes25 : aBytes Tryd.prog 25 = some 48 := by kernel_rfl
@[go_sem] theorem Tryd.aagg25 : aAgg Tryd.prog 25 = some true := by kernel_rfl
@[go_sem] theorem Tryd.afield25_0 : aField Tryd.prog 25 0 = some (0, 1) := by kernel_rfl
@[go_sem] theorem Tryd.afield25_1 : aField Tryd.prog 25 1 = some (1, 1) := by kernel_rfl
@[go_sem] theorem Tryd.afield25_2 : aField Tryd.prog 25 2 = some (2, 1) := by kernel_rfl
@[go_sem] theorem Tryd.afieldsok25 : aFieldsOk Tryd.prog 25 = true := by kernel_rfl
@[go_sem] theorem Tryd.azero25 : aZero Tryd.prog 25 = some [.sc (.int .i64 (0)), .sc (.string ⟨#[]⟩), .slice .full 0 []] := by kernel_rfl
@[go_sem] theorem Tryd.asize26 : aSize Tryd.prog 26 = some 1 := by kernel_rfl
@[go_sem] theorem Tryd.abytes26 : aBytes Tryd.prog 26 = some 8 := by kernel_rfl
@[go_sem] theorem Tryd.aagg26 : aAgg Tryd.prog 26 = some false := by kernel_rfl
@[go_sem] theorem Tryd.aisptr26 : aIsPtr Tryd.prog 26 = true := by kernel_rfl
@[go_sem] theorem Tryd.azero26 : aZero Tryd.prog 26 = some [.sc (.pointer none)] := by kernel_rfl
@[go_sem] theorem Tryd.asize27 : aSize Tryd.prog 27 = some 1 := by kernel_rfl
@[go_sem] theorem Tryd.abytes27 : aBytes Tryd.prog 27 = some 8 := by kernel_rfl
@[go_sem] theorem Tryd.aagg27 : aAgg Tryd.prog 27 = some false := by kernel_rfl
@[go_sem] theorem Tryd.aisptr27 : aIsPtr Tryd.prog 27 = true := by kernel_rfl
@[go_sem] theorem Tryd.azero27 : aZero Tryd.prog 27 = some [.sc (.pointer none)] := by kernel_rfl
@[go_sem] theorem Tryd.asize32 : aSize Tryd.prog 32 = some 1 := by kernel_rfl
@[go_sem] theorem Tryd.abytes32 : aBytes Tryd.prog 32 = some 8 := by kernel_rfl
@[go_sem] theorem Tryd.aagg32 : aAgg Tryd.prog 32 = some false := by kernel_rfl
@[go_sem] theorem Tryd.azero32 : aZero Tryd.prog 32 = some [.sc .nilFunc] := by kernel_rfl
@[go_sem] theorem Tryd.asize35 : aSize Tryd.prog 35 = some 1 := by kernel_rfl
@[go_sem] theorem Tryd.abytes35 : aBytes Tryd.prog 35 = some 8 := by kernel_rfl
@[go_sem] theorem Tryd.aagg35 : aAgg Tryd.prog 35 = some false := by kernel_rfl
@[go_sem] theorem Tryd.azero35 : aZero Tryd.prog 35 = some [.sc (.int .i64 (0))] := by kernel_rfl
@[go_sem] theorem Tryd.asize40 : aSize Tryd.prog 40 = some 1 := by kernel_rfl
@[go_sem] theorem Tryd.abytes40 : aBytes Tryd.prog 40 = some 8 := by kernel_rfl
@[go_sem] theorem Tryd.aagg40 : aAgg Tryd.prog 40 = some false := by kernel_rfl
@[go_sem] theorem Tryd.azero40 : aZero Tryd.prog 40 = some [.sc .nilFunc] := by kernel_rfl
@[go_sem] theorem Tryd.asize44 : aSize Tryd.prog 44 = some 6 := by kernel_rfl
@[go_sem] theorem Tryd.abytes44 : aBytes Tryd.prog 44 = some 96 := by kernel_rfl
@[go_sem] theorem Tryd.aagg44 : aAgg Tryd.prog 44 = some true := by kernel_rfl
@[go_sem] theorem Tryd.afield44_0 : aField Tryd.prog 44 0 = some (0, 3) := by kernel_rfl
@[go_sem] theorem Tryd.afield44_1 : aField Tryd.prog 44 1 = some (3, 3) := by kernel_rfl
@[go_sem] theorem Tryd.afieldsok44 : aFieldsOk Tryd.prog 44 = true := by kernel_rfl
@[go_sem] theorem Tryd.azero44 : aZero Tryd.prog 44 = some [.sc (.int .i64 (0)), .sc (.string ⟨#[]⟩), .slice .full 0 [], .sc (.int .i64 (0)), .sc (.string ⟨#[]⟩), .slice .full 0 []] := by kernel_rfl
@[go_sem] theorem Tryd.asize48 : aSize Tryd.prog 48 = some 1 := by kernel_rfl
@[go_sem] theorem Tryd.abytes48 : aBytes Tryd.prog 48 = some 24 := by kernel_rfl
@[go_sem] theorem Tryd.aagg48 : aAgg Tryd.prog 48 = some false := by kernel_rfl
@[go_sem] theorem Tryd.aelem48 : aElem Tryd.prog 48 = some 4 := by kernel_rfl
@[go_sem] theorem Tryd.azero48 : aZero Tryd.prog 48 = some [.slice .full 0 []] := by kernel_rfl
@[go_sem] theorem Tryd.asize50 : aSize Tryd.prog 50 = some 2 := by kernel_rfl
@[go_sem] theorem Tryd.abytes50 : aBytes Tryd.prog 50 = some 48 := by kernel_rfl
@[go_sem] theorem Tryd.aagg50 : aAgg Tryd.prog 50 = some true := by kernel_rfl
@[go_sem] theorem Tryd.afield50_0 : aField Tryd.prog 50 0 = some (0, 1) := by kernel_rfl
@[go_sem] theorem Tryd.afield50_1 : aField Tryd.prog 50 1 = some (1, 1) := by kernel_rfl
@[go_sem] theorem Tryd.afieldsok50 : aFieldsOk Tryd.prog 50 = true := by kernel_rfl
@[go_sem] theorem Tryd.azero50 : aZero Tryd.prog 50 = some [.slice .full 0 [], .slice .full 0 []] := by kernel_rfl
@[go_sem] theorem Tryd.asize53 : aSize Tryd.prog 53 = some 1 := by kernel_rfl
@[go_sem] theorem Tryd.abytes53 : aBytes Tryd.prog 53 = some 8 := by kernel_rfl
@[go_sem] theorem Tryd.aagg53 : aAgg Tryd.prog 53 = some false := by kernel_rfl
@[go_sem] theorem Tryd.azero53 : aZero Tryd.prog 53 = some [.sc .nilFunc] := by kernel_rfl
@[go_sem] theorem Tryd.asize54 : aSize Tryd.prog 54 = some 1 := by kernel_rfl
@[go_sem] theorem Tryd.abytes54 : aBytes Tryd.prog 54 = some 24 := by kernel_rfl
@[go_sem] theorem Tryd.aagg54 : aAgg Tryd.prog 54 = some false := by kernel_rfl
@[go_sem] theorem Tryd.aelem54 : aElem Tryd.prog 54 = some 3 := by kernel_rfl
@[go_sem] theorem Tryd.azero54 : aZero Tryd.prog 54 = some [.slice .full 0 []] := by kernel_rfl
@[go_sem] theorem Tryd.asize58 : aSize Tryd.prog 58 = some 1 := by kernel_rfl
@[go_sem] theorem Tryd.abytes58 : aBytes Tryd.prog 58 = some 8 := by kernel_rfl
@[go_sem] theorem Tryd.aagg58 : aAgg Tryd.prog 58 = some false := by kernel_rfl
theorem Tryd.amap58 : aMap Tryd.prog 58 = some (3, .int .i64, 25) := by kernel_rfl
theorem Tryd.zeroSV25 : zeroSV Tryd.prog 25 = some (.agg [.sc (.int .i64 (0)), .sc (.string ⟨#[]⟩), .slice .full 0 []]) := by kernel_rfl
@[go_sem] theorem Tryd.azero58 : aZero Tryd.prog 58 = some [.sc (.map none)] := by kernel_rfl
@[go_sem] theorem Tryd.asize61 : aSize Tryd.prog 61 = some 2 := by kernel_rfl
@[go_sem] theorem Tryd.abytes61 : aBytes Tryd.prog 61 = some 16 := by kernel_rfl
@[go_sem] theorem Tryd.aagg61 : aAgg Tryd.prog 61 = some true := by kernel_rfl
@[go_sem] theorem Tryd.afield61_0 : aField Tryd.prog 61 0 = some (0, 1) := by kernel_rfl
@[go_sem] theorem Tryd.afield61_1 : aField Tryd.prog 61 1 = some (1, 1) := by kernel_rfl
@[go_sem] theorem Tryd.afieldsok61 : aFieldsOk Tryd.prog 61 = true := by kernel_rfl
@[go_sem] theorem Tryd.azero61 : aZero Tryd.prog 61 = some [.sc (.int .i64 (0)), .sc (.map none)] := by kernel_rfl
@[go_sem] theorem Tryd.asize62 : aSize Tryd.prog 62 = some 1 := by kernel_rfl
@[go_sem] theorem Tryd.abytes62 : aBytes Tryd.prog 62 = some 8 := by kernel_rfl
@[go_sem] theorem Tryd.aagg62 : aAgg Tryd.prog 62 = some false := by kernel_rfl
@[go_sem] theorem Tryd.azero62 : aZero Tryd.prog 62 = some [.sc (.map none)] := by kernel_rfl
@[go_sem] theorem Tryd.asize64 : aSize Tryd.prog 64 = some 2 := by kernel_rfl
@[go_sem] theorem Tryd.abytes64 : aBytes Tryd.prog 64 = some 16 := by kernel_rfl
@[go_sem] theorem Tryd.aagg64 : aAgg Tryd.prog 64 = some true := by kernel_rfl
@[go_sem] theorem Tryd.afield64_0 : aField Tryd.prog 64 0 = some (0, 1) := by kernel_rfl
@[go_sem] theorem Tryd.afield64_1 : aField Tryd.prog 64 1 = some (1, 1) := by kernel_rfl
@[go_sem] theorem Tryd.afieldsok64 : aFieldsOk Tryd.prog 64 = true := by kernel_rfl
@[go_sem] theorem Tryd.azero64 : aZero Tryd.prog 64 = some [.sc (.pointer none), .sc (.map none)] := by kernel_rfl
@[go_sem] theorem Tryd.asize67 : aSize Tryd.prog 67 = some 1 := by kernel_rfl
@[go_sem] theorem Tryd.abytes67 : aBytes Tryd.prog 67 = some 24 := by kernel_rfl
@[go_sem] theorem Tryd.aagg67 : aAgg Tryd.prog 67 = some false := by kernel_rfl
@[go_sem] theorem Tryd.aelem67 : aElem Tryd.prog 67 = some 79 := by kernel_rfl
@[go_sem] theorem Tryd.azero67 : aZero Tryd.prog 67 = some [.slice .full 0 []] := by kernel_rfl
@[go_sem] theorem Tryd.asize75 : aSize Tryd.prog 75 = some 2 := by kernel_rfl
@[go_sem] theorem Tryd.abytes75 : aBytes Tryd.prog 75 = some 16 := by kernel_rfl
@[go_sem] theorem Tryd.aagg75 : aAgg Tryd.prog 75 = some true := by kernel_rfl
@[go_sem] theorem Tryd.azero75 : aZero Tryd.prog 75 = some [.sc (.int .i64 (0)), .sc (.int .i64 (0))] := by kernel_rfl
@[go_sem] theorem Tryd.asize77 : aSize Tryd.prog 77 = some 1 := by kernel_rfl
@[go_sem] theorem Tryd.abytes77 : aBytes Tryd.prog 77 = some 8 := by kernel_rfl
@[go_sem] theorem Tryd.aagg77 : aAgg Tryd.prog 77 = some false := by kernel_rfl
theorem Tryd.amap77 : aMap Tryd.prog 77 = some (3, .int .i64, 3) := by kernel_rfl
theorem Tryd.zeroSV3 : zeroSV Tryd.prog 3 = some (.sc (.int .i64 (0))) := by kernel_rfl
@[go_sem] theorem Tryd.azero77 : aZero Tryd.prog 77 = some [.sc (.map none)] := by kernel_rfl
@[go_sem] theorem Tryd.asize79 : aSize Tryd.prog 79 = some 2 := by kernel_rfl
@[go_sem] theorem Tryd.abytes79 : aBytes Tryd.prog 79 = some 16 := by kernel_rfl
@[go_sem] theorem Tryd.aagg79 : aAgg Tryd.prog 79 = some true := by kernel_rfl
@[go_sem] theorem Tryd.afield79_0 : aField Tryd.prog 79 0 = some (0, 1) := by kernel_rfl
@[go_sem] theorem Tryd.afield79_1 : aField Tryd.prog 79 1 = some (1, 1) := by kernel_rfl
@[go_sem] theorem Tryd.afieldsok79 : aFieldsOk Tryd.prog 79 = true := by kernel_rfl
@[go_sem] theorem Tryd.azero79 : aZero Tryd.prog 79 = some [.sc (.int .i64 (0)), .sc (.int .i64 (0))] := by kernel_rfl
@[go_sem] theorem Tryd.asize83 : aSize Tryd.prog 83 = some 1 := by kernel_rfl
@[go_sem] theorem Tryd.abytes83 : aBytes Tryd.prog 83 = some 24 := by kernel_rfl
@[go_sem] theorem Tryd.aagg83 : aAgg Tryd.prog 83 = some false := by kernel_rfl
@[go_sem] theorem Tryd.aelem83 : aElem Tryd.prog 83 = some 5 := by kernel_rfl
@[go_sem] theorem Tryd.azero83 : aZero Tryd.prog 83 = some [.slice .full 0 []] := by kernel_rfl
@[go_sem] theorem Tryd.abody3 : aBody Tryd.prog 3 = true := by kernel_rfl
@[go_sem] theorem Tryd.abody7 : aBody Tryd.prog 7 = true := by kernel_rfl
@[go_sem] theorem Tryd.abody8 : aBody Tryd.prog 8 = true := by kernel_rfl
@[go_sem] theorem Tryd.abody9 : aBody Tryd.prog 9 = true := by kernel_rfl
@[go_sem] theorem Tryd.abody10 : aBody Tryd.prog 10 = true := by kernel_rfl
@[go_sem] theorem Tryd.abody11 : aBody Tryd.prog 11 = true := by kernel_rfl
@[go_sem] theorem Tryd.abody12 : aBody Tryd.prog 12 = true := by kernel_rfl
@[go_sem] theorem Tryd.abody13 : aBody Tryd.prog 13 = true := by kernel_rfl
@[go_sem] theorem Tryd.abody14 : aBody Tryd.prog 14 = true := by kernel_rfl
@[go_sem] theorem Tryd.abody15 : aBody Tryd.prog 15 = true := by kernel_rfl
@[go_sem] theorem Tryd.abody16 : aBody Tryd.prog 16 = true := by kernel_rfl
@[go_sem] theorem Tryd.abody17 : aBody Tryd.prog 17 = true := by kernel_rfl
@[go_sem] theorem Tryd.abody18 : aBody Tryd.prog 18 = true := by kernel_rfl
@[go_sem] theorem Tryd.abody19 : aBody Tryd.prog 19 = true := by kernel_rfl
@[go_sem] theorem Tryd.abody20 : aBody Tryd.prog 20 = true := by kernel_rfl
@[go_sem] theorem Tryd.abody21 : aBody Tryd.prog 21 = true := by kernel_rfl
@[go_sem] theorem Tryd.abody22 : aBody Tryd.prog 22 = true := by kernel_rfl
@[go_sem] theorem Tryd.abody23 : aBody Tryd.prog 23 = true := by kernel_rfl
@[go_sem] theorem Tryd.abody24 : aBody Tryd.prog 24 = true := by kernel_rfl
@[go_sem] theorem Tryd.abody25 : aBody Tryd.prog 25 = true := by kernel_rfl
@[go_sem] theorem Tryd.abody26 : aBody Tryd.prog 26 = true := by kernel_rfl
@[go_sem] theorem Tryd.abody27 : aBody Tryd.prog 27 = true := by kernel_rfl
@[go_sem] theorem Tryd.abody28 : aBody Tryd.prog 28 = true := by kernel_rfl
@[go_sem] theorem Tryd.abody29 : aBody Tryd.prog 29 = true := by kernel_rfl
@[go_sem] theorem Tryd.abody30 : aBody Tryd.prog 30 = true := by kernel_rfl
@[go_sem] theorem Tryd.abody31 : aBody Tryd.prog 31 = true := by kernel_rfl
@[go_sem] theorem Tryd.abody32 : aBody Tryd.prog 32 = true := by kernel_rfl
@[go_sem] theorem Tryd.abody33 : aBody Tryd.prog 33 = true := by kernel_rfl
@[go_sem] theorem Tryd.abody34 : aBody Tryd.prog 34 = true := by kernel_rfl
@[go_sem] theorem Tryd.abody35 : aBody Tryd.prog 35 = true := by kernel_rfl
@[go_sem] theorem Tryd.abody36 : aBody Tryd.prog 36 = true := by kernel_rfl
@[go_sem] theorem Tryd.abody37 : aBody Tryd.prog 37 = true := by kernel_rfl
@[go_sem] theorem Tryd.abody38 : aBody Tryd.prog 38 = true := by kernel_rfl
@[go_sem] theorem Tryd.abody39 : aBody Tryd.prog 39 = true := by kernel_rfl
@[go_sem] theorem Tryd.abody40 : aBody Tryd.prog 40 = true := by kernel_rfl
@[go_sem] theorem Tryd.abody41 : aBody Tryd.prog 41 = true := by kernel_rfl
@[go_sem] theorem Tryd.abody42 : aBody Tryd.prog 42 = true := by kernel_rfl
@[go_sem] theorem Tryd.abody43 : aBody Tryd.prog 43 = true := by kernel_rfl
@[go_sem] theorem Tryd.abody44 : aBody Tryd.prog 44 = true := by kernel_rfl
@[go_sem] theorem Tryd.abody46 : aBody Tryd.prog 46 = true := by kernel_rfl
@[go_sem] theorem Tryd.abody47 : aBody Tryd.prog 47 = true := by kernel_rfl
@[go_sem] theorem Tryd.abody49 : aBody Tryd.prog 49 = true := by kernel_rfl
@[go_sem] theorem Tryd.abody50 : aBody Tryd.prog 50 = true := by kernel_rfl
@[go_sem] theorem Tryd.abody51 : aBody Tryd.prog 51 = true := by kernel_rfl
@[go_sem] theorem Tryd.abody52 : aBody Tryd.prog 52 = true := by kernel_rfl
@[go_sem] theorem Tryd.abody53 : aBody Tryd.prog 53 = true := by kernel_rfl
@[go_sem] theorem Tryd.abody55 : aBody Tryd.prog 55 = true := by kernel_rfl
@[go_sem] theorem Tryd.abody56 : aBody Tryd.prog 56 = true := by kernel_rfl
@[go_sem] theorem Tryd.abody57 : aBody Tryd.prog 57 = true := by kernel_rfl
@[go_sem] theorem Tryd.abody59 : aBody Tryd.prog 59 = true := by kernel_rfl
@[go_sem] theorem Tryd.mixed : Tryd.prog.follows .mixedOrders = true := by kernel_rfl
end Go.Proofs
