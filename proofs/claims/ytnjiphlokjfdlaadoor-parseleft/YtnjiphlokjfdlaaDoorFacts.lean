/- The facts on the types of this seat's program that the walks ask: printed by facts.sh, each reckoned by the kernel. -/
import Derived.Test.YtnjiphlokjfdlaaDoorProg
import Derived.Test.YtnjiphlokjfdlaaDoorA9
import Derived.KernelRfl
namespace Go.Proofs
open Go Go.AL
@[go_sem] theorem Tryd.asize0 : aSize Tryd.prog 0 = some 1 := by kernel_rfl
@[go_sem] theorem Tryd.abytes0 : aBytes Tryd.prog 0 = some 0 := by kernel_rfl
@[go_sem] theorem Tryd.aagg0 : aAgg Tryd.prog 0 = some false := by kernel_rfl
@[go_sem] theorem Tryd.asize1 : aSize Tryd.prog 1 = some 1 := by kernel_rfl
@[go_sem] theorem Tryd.abytes1 : aBytes Tryd.prog 1 = some 8 := by kernel_rfl
@[go_sem] theorem Tryd.aagg1 : aAgg Tryd.prog 1 = some false := by kernel_rfl
@[go_sem] theorem Tryd.azero1 : aZero Tryd.prog 1 = some [.sc .nilFunc] := by kernel_rfl
@[go_sem] theorem Tryd.asize2 : aSize Tryd.prog 2 = some 1 := by kernel_rfl
@[go_sem] theorem Tryd.abytes2 : aBytes Tryd.prog 2 = some 8 := by kernel_rfl
@[go_sem] theorem Tryd.aagg2 : aAgg Tryd.prog 2 = some false := by kernel_rfl
@[go_sem] theorem Tryd.azero2 : aZero Tryd.prog 2 = some [.sc (.int .i64 (0))] := by kernel_rfl
@[go_sem] theorem Tryd.asize3 : aSize Tryd.prog 3 = some 1 := by kernel_rfl
@[go_sem] theorem Tryd.abytes3 : aBytes Tryd.prog 3 = some 8 := by kernel_rfl
@[go_sem] theorem Tryd.aagg3 : aAgg Tryd.prog 3 = some false := by kernel_rfl
@[go_sem] theorem Tryd.azero3 : aZero Tryd.prog 3 = some [.sc (.int .i64 (0))] := by kernel_rfl
@[go_sem] theorem Tryd.asize4 : aSize Tryd.prog 4 = some 1 := by kernel_rfl
@[go_sem] theorem Tryd.abytes4 : aBytes Tryd.prog 4 = some 1 := by kernel_rfl
@[go_sem] theorem Tryd.aagg4 : aAgg Tryd.prog 4 = some false := by kernel_rfl
@[go_sem] theorem Tryd.aund4 : Tryd.prog.underlying 4 = some .bool := by kernel_rfl
@[go_sem] theorem Tryd.azero4 : aZero Tryd.prog 4 = some [.sc (.bool false)] := by kernel_rfl
@[go_sem] theorem Tryd.asize5 : aSize Tryd.prog 5 = some 1 := by kernel_rfl
@[go_sem] theorem Tryd.abytes5 : aBytes Tryd.prog 5 = some 1 := by kernel_rfl
@[go_sem] theorem Tryd.aagg5 : aAgg Tryd.prog 5 = some false := by kernel_rfl
@[go_sem] theorem Tryd.azero5 : aZero Tryd.prog 5 = some [.sc (.int .u8 (0))] := by kernel_rfl
@[go_sem] theorem Tryd.asize6 : aSize Tryd.prog 6 = some 1 := by kernel_rfl
@[go_sem] theorem Tryd.abytes6 : aBytes Tryd.prog 6 = some 1 := by kernel_rfl
@[go_sem] theorem Tryd.aagg6 : aAgg Tryd.prog 6 = some false := by kernel_rfl
@[go_sem] theorem Tryd.azero6 : aZero Tryd.prog 6 = some [.sc (.int .u8 (0))] := by kernel_rfl
@[go_sem] theorem Tryd.asize7 : aSize Tryd.prog 7 = some 4 := by kernel_rfl
@[go_sem] theorem Tryd.abytes7 : aBytes Tryd.prog 7 = some 24 := by kernel_rfl
@[go_sem] theorem Tryd.aagg7 : aAgg Tryd.prog 7 = some true := by kernel_rfl
@[go_sem] theorem Tryd.afield7_0 : aField Tryd.prog 7 0 = some (0, 1) := by kernel_rfl
@[go_sem] theorem Tryd.afield7_1 : aField Tryd.prog 7 1 = some (1, 1) := by kernel_rfl
@[go_sem] theorem Tryd.afield7_2 : aField Tryd.prog 7 2 = some (2, 1) := by kernel_rfl
@[go_sem] theorem Tryd.afield7_3 : aField Tryd.prog 7 3 = some (3, 1) := by kernel_rfl
@[go_sem] theorem Tryd.afieldsok7 : aFieldsOk Tryd.prog 7 = true := by kernel_rfl
@[go_sem] theorem Tryd.azero7 : aZero Tryd.prog 7 = some [.sc (.int .i64 (0)), .sc (.int .i64 (0)), .sc (.bool false), .sc (.int .u8 (0))] := by kernel_rfl
@[go_sem] theorem Tryd.asize8 : aSize Tryd.prog 8 = some 4 := by kernel_rfl
@[go_sem] theorem Tryd.abytes8 : aBytes Tryd.prog 8 = some 24 := by kernel_rfl
@[go_sem] theorem Tryd.aagg8 : aAgg Tryd.prog 8 = some true := by kernel_rfl
@[go_sem] theorem Tryd.afield8_0 : aField Tryd.prog 8 0 = some (0, 1) := by kernel_rfl
@[go_sem] theorem Tryd.afield8_1 : aField Tryd.prog 8 1 = some (1, 1) := by kernel_rfl
@[go_sem] theorem Tryd.afield8_2 : aField Tryd.prog 8 2 = some (2, 1) := by kernel_rfl
@[go_sem] theorem Tryd.afield8_3 : aField Tryd.prog 8 3 = some (3, 1) := by kernel_rfl
@[go_sem] theorem Tryd.afieldsok8 : aFieldsOk Tryd.prog 8 = true := by kernel_rfl
@[go_sem] theorem Tryd.azero8 : aZero Tryd.prog 8 = some [.sc (.int .i64 (0)), .sc (.int .i64 (0)), .sc (.bool false), .sc (.int .u8 (0))] := by kernel_rfl
@[go_sem] theorem Tryd.asize9 : aSize Tryd.prog 9 = some 1 := by kernel_rfl
@[go_sem] theorem Tryd.abytes9 : aBytes Tryd.prog 9 = some 16 := by kernel_rfl
@[go_sem] theorem Tryd.aagg9 : aAgg Tryd.prog 9 = some false := by kernel_rfl
@[go_sem] theorem Tryd.aund9 : Tryd.prog.underlying 9 = some .string := by kernel_rfl
@[go_sem] theorem Tryd.azero9 : aZero Tryd.prog 9 = some [.sc (.string ⟨#[]⟩)] := by kernel_rfl
@[go_sem] theorem Tryd.asize10 : aSize Tryd.prog 10 = some 1 := by kernel_rfl
@[go_sem] theorem Tryd.abytes10 : aBytes Tryd.prog 10 = some 16 := by kernel_rfl
@[go_sem] theorem Tryd.aagg10 : aAgg Tryd.prog 10 = some false := by kernel_rfl
@[go_sem] theorem Tryd.aund10 : Tryd.prog.underlying 10 = some .string := by kernel_rfl
@[go_sem] theorem Tryd.azero10 : aZero Tryd.prog 10 = some [.sc (.string ⟨#[]⟩)] := by kernel_rfl
@[go_sem] theorem Tryd.asize11 : aSize Tryd.prog 11 = some 1 := by kernel_rfl
@[go_sem] theorem Tryd.abytes11 : aBytes Tryd.prog 11 = some 16 := by kernel_rfl
@[go_sem] theorem Tryd.aagg11 : aAgg Tryd.prog 11 = some false := by kernel_rfl
@[go_sem] theorem Tryd.aund11 : Tryd.prog.underlying 11 = some .string := by kernel_rfl
@[go_sem] theorem Tryd.azero11 : aZero Tryd.prog 11 = some [.sc (.string ⟨#[]⟩)] := by kernel_rfl
@[go_sem] theorem Tryd.asize12 : aSize Tryd.prog 12 = some 1 := by kernel_rfl
@[go_sem] theorem Tryd.abytes12 : aBytes Tryd.prog 12 = some 8 := by kernel_rfl
@[go_sem] theorem Tryd.aagg12 : aAgg Tryd.prog 12 = some false := by kernel_rfl
@[go_sem] theorem Tryd.azero12 : aZero Tryd.prog 12 = some [.sc (.int .u64 (0))] := by kernel_rfl
@[go_sem] theorem Tryd.asize13 : aSize Tryd.prog 13 = some 2 := by kernel_rfl
@[go_sem] theorem Tryd.abytes13 : aBytes Tryd.prog 13 = some 24 := by kernel_rfl
@[go_sem] theorem Tryd.aagg13 : aAgg Tryd.prog 13 = some true := by kernel_rfl
@[go_sem] theorem Tryd.afield13_0 : aField Tryd.prog 13 0 = some (0, 1) := by kernel_rfl
@[go_sem] theorem Tryd.afield13_1 : aField Tryd.prog 13 1 = some (1, 1) := by kernel_rfl
@[go_sem] theorem Tryd.afieldsok13 : aFieldsOk Tryd.prog 13 = true := by kernel_rfl
@[go_sem] theorem Tryd.azero13 : aZero Tryd.prog 13 = some [.sc (.string ⟨#[]⟩), .sc (.int .u64 (0))] := by kernel_rfl
@[go_sem] theorem Tryd.asize14 : aSize Tryd.prog 14 = some 2 := by kernel_rfl
@[go_sem] theorem Tryd.abytes14 : aBytes Tryd.prog 14 = some 24 := by kernel_rfl
@[go_sem] theorem Tryd.aagg14 : aAgg Tryd.prog 14 = some true := by kernel_rfl
@[go_sem] theorem Tryd.afield14_0 : aField Tryd.prog 14 0 = some (0, 1) := by kernel_rfl
@[go_sem] theorem Tryd.afield14_1 : aField Tryd.prog 14 1 = some (1, 1) := by kernel_rfl
@[go_sem] theorem Tryd.afieldsok14 : aFieldsOk Tryd.prog 14 = true := by kernel_rfl
@[go_sem] theorem Tryd.azero14 : aZero Tryd.prog 14 = some [.sc (.string ⟨#[]⟩), .sc (.int .u64 (0))] := by kernel_rfl
@[go_sem] theorem Tryd.asize15 : aSize Tryd.prog 15 = some 1 := by kernel_rfl
@[go_sem] theorem Tryd.abytes15 : aBytes Tryd.prog 15 = some 8 := by kernel_rfl
@[go_sem] theorem Tryd.aagg15 : aAgg Tryd.prog 15 = some false := by kernel_rfl
@[go_sem] theorem Tryd.aisptr15 : aIsPtr Tryd.prog 15 = true := by kernel_rfl
@[go_sem] theorem Tryd.azero15 : aZero Tryd.prog 15 = some [.sc (.pointer none)] := by kernel_rfl
@[go_sem] theorem Tryd.asize16 : aSize Tryd.prog 16 = some 1 := by kernel_rfl
@[go_sem] theorem Tryd.abytes16 : aBytes Tryd.prog 16 = some 8 := by kernel_rfl
@[go_sem] theorem Tryd.aagg16 : aAgg Tryd.prog 16 = some false := by kernel_rfl
@[go_sem] theorem Tryd.aisptr16 : aIsPtr Tryd.prog 16 = true := by kernel_rfl
@[go_sem] theorem Tryd.azero16 : aZero Tryd.prog 16 = some [.sc (.pointer none)] := by kernel_rfl
@[go_sem] theorem Tryd.asize17 : aSize Tryd.prog 17 = some 1 := by kernel_rfl
@[go_sem] theorem Tryd.abytes17 : aBytes Tryd.prog 17 = some 8 := by kernel_rfl
@[go_sem] theorem Tryd.aagg17 : aAgg Tryd.prog 17 = some false := by kernel_rfl
@[go_sem] theorem Tryd.aisptr17 : aIsPtr Tryd.prog 17 = true := by kernel_rfl
@[go_sem] theorem Tryd.azero17 : aZero Tryd.prog 17 = some [.sc (.pointer none)] := by kernel_rfl
@[go_sem] theorem Tryd.asize18 : aSize Tryd.prog 18 = some 1 := by kernel_rfl
@[go_sem] theorem Tryd.abytes18 : aBytes Tryd.prog 18 = some 8 := by kernel_rfl
@[go_sem] theorem Tryd.aagg18 : aAgg Tryd.prog 18 = some true := by kernel_rfl
@[go_sem] theorem Tryd.afield18_0 : aField Tryd.prog 18 0 = some (0, 1) := by kernel_rfl
@[go_sem] theorem Tryd.afieldsok18 : aFieldsOk Tryd.prog 18 = true := by kernel_rfl
@[go_sem] theorem Tryd.azero18 : aZero Tryd.prog 18 = some [.sc (.pointer none)] := by kernel_rfl
@[go_sem] theorem Tryd.asize19 : aSize Tryd.prog 19 = some 1 := by kernel_rfl
@[go_sem] theorem Tryd.abytes19 : aBytes Tryd.prog 19 = some 8 := by kernel_rfl
@[go_sem] theorem Tryd.aagg19 : aAgg Tryd.prog 19 = some true := by kernel_rfl
@[go_sem] theorem Tryd.afield19_0 : aField Tryd.prog 19 0 = some (0, 1) := by kernel_rfl
@[go_sem] theorem Tryd.afieldsok19 : aFieldsOk Tryd.prog 19 = true := by kernel_rfl
@[go_sem] theorem Tryd.azero19 : aZero Tryd.prog 19 = some [.sc (.pointer none)] := by kernel_rfl
@[go_sem] theorem Tryd.asize20 : aSize Tryd.prog 20 = some 1 := by kernel_rfl
@[go_sem] theorem Tryd.abytes20 : aBytes Tryd.prog 20 = some 16 := by kernel_rfl
@[go_sem] theorem Tryd.aagg20 : aAgg Tryd.prog 20 = some false := by kernel_rfl
@[go_sem] theorem Tryd.azero20 : aZero Tryd.prog 20 = some [.sc .nilIface] := by kernel_rfl
@[go_sem] theorem Tryd.asize21 : aSize Tryd.prog 21 = some 1 := by kernel_rfl
@[go_sem] theorem Tryd.abytes21 : aBytes Tryd.prog 21 = some 4 := by kernel_rfl
@[go_sem] theorem Tryd.aagg21 : aAgg Tryd.prog 21 = some false := by kernel_rfl
@[go_sem] theorem Tryd.azero21 : aZero Tryd.prog 21 = some [.sc (.int .i32 (0))] := by kernel_rfl
@[go_sem] theorem Tryd.asize22 : aSize Tryd.prog 22 = some 1 := by kernel_rfl
@[go_sem] theorem Tryd.abytes22 : aBytes Tryd.prog 22 = some 24 := by kernel_rfl
@[go_sem] theorem Tryd.aagg22 : aAgg Tryd.prog 22 = some false := by kernel_rfl
@[go_sem] theorem Tryd.aelem22 : aElem Tryd.prog 22 = some 9 := by kernel_rfl
@[go_sem] theorem Tryd.azero22 : aZero Tryd.prog 22 = some [.slice .full 0 []] := by kernel_rfl
@[go_sem] theorem Tryd.asize23 : aSize Tryd.prog 23 = some 1 := by kernel_rfl
@[go_sem] theorem Tryd.abytes23 : aBytes Tryd.prog 23 = some 24 := by kernel_rfl
@[go_sem] theorem Tryd.aagg23 : aAgg Tryd.prog 23 = some false := by kernel_rfl
@[go_sem] theorem Tryd.aelem23 : aElem Tryd.prog 23 = some 3 := by kernel_rfl
@[go_sem] theorem Tryd.azero23 : aZero Tryd.prog 23 = some [.slice .full 0 []] := by kernel_rfl
@[go_sem] theorem Tryd.asize24 : aSize Tryd.prog 24 = some 1 := by kernel_rfl
@[go_sem] theorem Tryd.abytes24 : aBytes Tryd.prog 24 = some 8 := by kernel_rfl
@[go_sem] theorem Tryd.aagg24 : aAgg Tryd.prog 24 = some false := by kernel_rfl
@[go_sem] theorem Tryd.azero24 : aZero Tryd.prog 24 = some [.sc .nilFunc] := by kernel_rfl
@[go_sem] theorem Tryd.asize25 : aSize Tryd.prog 25 = some 1 := by kernel_rfl
@[go_sem] theorem Tryd.abytes25 : aBytes Tryd.prog 25 = some 24 := by kernel_rfl
@[go_sem] theorem Tryd.aagg25 : aAgg Tryd.prog 25 = some false := by kernel_rfl
@[go_sem] theorem Tryd.aelem25 : aElem Tryd.prog 25 = some 27 := by kernel_rfl
@[go_sem] theorem Tryd.azero25 : aZero Tryd.prog 25 = some [.slice .full 0 []] := by kernel_rfl
@[go_sem] theorem Tryd.asize26 : aSize Tryd.prog 26 = some 6 := by kernel_rfl
@[go_sem] theorem Tryd.abytes26 : aBytes Tryd.prog 26 = some 88 := by kernel_rfl
@[go_sem] theorem Tryd.aagg26 : aAgg Tryd.prog 26 = some true := by kernel_rfl
@[go_sem] theorem Tryd.afield26_0 : aField Tryd.prog 26 0 = some (0, 1) := by kernel_rfl
@[go_sem] theorem Tryd.afield26_1 : aField Tryd.prog 26 1 = some (1, 1) := by kernel_rfl
@[go_sem] theorem Tryd.afield26_2 : aField Tryd.prog 26 2 = some (2, 1) := by kernel_rfl
@[go_sem] theorem Tryd.afield26_3 : aField Tryd.prog 26 3 = some (3, 1) := by kernel_rfl
@[go_sem] theorem Tryd.afield26_4 : aField Tryd.prog 26 4 = some (4, 1) := by kernel_rfl
@[go_sem] theorem Tryd.afield26_5 : aField Tryd.prog 26 5 = some (5, 1) := by kernel_rfl
@[go_sem] theorem Tryd.afieldsok26 : aFieldsOk Tryd.prog 26 = true := by kernel_rfl
@[go_sem] theorem Tryd.azero26 : aZero Tryd.prog 26 = some [.sc (.int .i64 (0)), .sc (.string ⟨#[]⟩), .sc (.int .i64 (0)), .sc (.int .i64 (0)), .slice .full 0 [], .slice .full 0 []] := by kernel_rfl
@[go_sem] theorem Tryd.asize27 : aSize Tryd.prog 27 = some 6 := by kernel_rfl
@[go_sem] theorem Tryd.abytes27 : aBytes Tryd.prog 27 = some 88 := by kernel_rfl
@[go_sem] theorem Tryd.aagg27 : aAgg Tryd.prog 27 = some true := by kernel_rfl
@[go_sem] theorem Tryd.afield27_0 : aField Tryd.prog 27 0 = some (0, 1) := by kernel_rfl
@[go_sem] theorem Tryd.afield27_1 : aField Tryd.prog 27 1 = some (1, 1) := by kernel_rfl
@[go_sem] theorem Tryd.afield27_2 : aField Tryd.prog 27 2 = some (2, 1) := by kernel_rfl
@[go_sem] theorem Tryd.afield27_3 : aField Tryd.prog 27 3 = some (3, 1) := by kernel_rfl
@[go_sem] theorem Tryd.afield27_4 : aField Tryd.prog 27 4 = some (4, 1) := by kernel_rfl
@[go_sem] theorem Tryd.afield27_5 : aField Tryd.prog 27 5 = some (5, 1) := by kernel_rfl
@[go_sem] theorem Tryd.afieldsok27 : aFieldsOk Tryd.prog 27 = true := by kernel_rfl
@[go_sem] theorem Tryd.azero27 : aZero Tryd.prog 27 = some [.sc (.int .i64 (0)), .sc (.string ⟨#[]⟩), .sc (.int .i64 (0)), .sc (.int .i64 (0)), .slice .full 0 [], .slice .full 0 []] := by kernel_rfl
@[go_sem] theorem Tryd.asize28 : aSize Tryd.prog 28 = some 1 := by kernel_rfl
@[go_sem] theorem Tryd.abytes28 : aBytes Tryd.prog 28 = some 8 := by kernel_rfl
@[go_sem] theorem Tryd.aagg28 : aAgg Tryd.prog 28 = some false := by kernel_rfl
@[go_sem] theorem Tryd.azero28 : aZero Tryd.prog 28 = some [.sc (.int .i64 (0))] := by kernel_rfl
@[go_sem] theorem Tryd.asize29 : aSize Tryd.prog 29 = some 1 := by kernel_rfl
@[go_sem] theorem Tryd.abytes29 : aBytes Tryd.prog 29 = some 0 := by kernel_rfl
@[go_sem] theorem Tryd.aagg29 : aAgg Tryd.prog 29 = some false := by kernel_rfl
@[go_sem] theorem Tryd.asize30 : aSize Tryd.prog 30 = some 1 := by kernel_rfl
@[go_sem] theorem Tryd.abytes30 : aBytes Tryd.prog 30 = some 8 := by kernel_rfl
@[go_sem] theorem Tryd.aagg30 : aAgg Tryd.prog 30 = some false := by kernel_rfl
@[go_sem] theorem Tryd.azero30 : aZero Tryd.prog 30 = some [.sc .nilFunc] := by kernel_rfl
@[go_sem] theorem Tryd.asize31 : aSize Tryd.prog 31 = some 1 := by kernel_rfl
@[go_sem] theorem Tryd.abytes31 : aBytes Tryd.prog 31 = some 8 := by kernel_rfl
@[go_sem] theorem Tryd.aagg31 : aAgg Tryd.prog 31 = some false := by kernel_rfl
@[go_sem] theorem Tryd.azero31 : aZero Tryd.prog 31 = some [.sc .nilFunc] := by kernel_rfl
@[go_sem] theorem Tryd.asize32 : aSize Tryd.prog 32 = some 1 := by kernel_rfl
@[go_sem] theorem Tryd.abytes32 : aBytes Tryd.prog 32 = some 8 := by kernel_rfl
@[go_sem] theorem Tryd.aagg32 : aAgg Tryd.prog 32 = some false := by kernel_rfl
@[go_sem] theorem Tryd.azero32 : aZero Tryd.prog 32 = some [.sc .nilFunc] := by kernel_rfl
@[go_sem] theorem Tryd.asize33 : aSize Tryd.prog 33 = some 1 := by kernel_rfl
@[go_sem] theorem Tryd.abytes33 : aBytes Tryd.prog 33 = some 8 := by kernel_rfl
@[go_sem] theorem Tryd.aagg33 : aAgg Tryd.prog 33 = some false := by kernel_rfl
@[go_sem] theorem Tryd.azero33 : aZero Tryd.prog 33 = some [.sc .nilFunc] := by kernel_rfl
@[go_sem] theorem Tryd.asize34 : aSize Tryd.prog 34 = some 1 := by kernel_rfl
@[go_sem] theorem Tryd.abytes34 : aBytes Tryd.prog 34 = some 8 := by kernel_rfl
@[go_sem] theorem Tryd.aagg34 : aAgg Tryd.prog 34 = some false := by kernel_rfl
@[go_sem] theorem Tryd.azero34 : aZero Tryd.prog 34 = some [.sc .nilFunc] := by kernel_rfl
@[go_sem] theorem Tryd.asize35 : aSize Tryd.prog 35 = some 1 := by kernel_rfl
@[go_sem] theorem Tryd.abytes35 : aBytes Tryd.prog 35 = some 24 := by kernel_rfl
@[go_sem] theorem Tryd.aagg35 : aAgg Tryd.prog 35 = some false := by kernel_rfl
@[go_sem] theorem Tryd.aelem35 : aElem Tryd.prog 35 = some 39 := by kernel_rfl
@[go_sem] theorem Tryd.azero35 : aZero Tryd.prog 35 = some [.slice .full 0 []] := by kernel_rfl
@[go_sem] theorem Tryd.asize36 : aSize Tryd.prog 36 = some 1 := by kernel_rfl
@[go_sem] theorem Tryd.abytes36 : aBytes Tryd.prog 36 = some 0 := by kernel_rfl
@[go_sem] theorem Tryd.aagg36 : aAgg Tryd.prog 36 = some false := by kernel_rfl
@[go_sem] theorem Tryd.asize37 : aSize Tryd.prog 37 = some 1 := by kernel_rfl
@[go_sem] theorem Tryd.abytes37 : aBytes Tryd.prog 37 = some 8 := by kernel_rfl
@[go_sem] theorem Tryd.aagg37 : aAgg Tryd.prog 37 = some false := by kernel_rfl
@[go_sem] theorem Tryd.azero37 : aZero Tryd.prog 37 = some [.sc .nilFunc] := by kernel_rfl
@[go_sem] theorem Tryd.asize38 : aSize Tryd.prog 38 = some 4 := by kernel_rfl
@[go_sem] theorem Tryd.abytes38 : aBytes Tryd.prog 38 = some 40 := by kernel_rfl
@[go_sem] theorem Tryd.aagg38 : aAgg Tryd.prog 38 = some true := by kernel_rfl
@[go_sem] theorem Tryd.afield38_0 : aField Tryd.prog 38 0 = some (0, 1) := by kernel_rfl
@[go_sem] theorem Tryd.afield38_1 : aField Tryd.prog 38 1 = some (1, 1) := by kernel_rfl
@[go_sem] theorem Tryd.afield38_2 : aField Tryd.prog 38 2 = some (2, 1) := by kernel_rfl
@[go_sem] theorem Tryd.afield38_3 : aField Tryd.prog 38 3 = some (3, 1) := by kernel_rfl
@[go_sem] theorem Tryd.afieldsok38 : aFieldsOk Tryd.prog 38 = true := by kernel_rfl
@[go_sem] theorem Tryd.azero38 : aZero Tryd.prog 38 = some [.sc (.int .i64 (0)), .sc (.string ⟨#[]⟩), .sc (.int .i64 (0)), .sc (.int .i64 (0))] := by kernel_rfl
@[go_sem] theorem Tryd.asize39 : aSize Tryd.prog 39 = some 4 := by kernel_rfl
@[go_sem] theorem Tryd.abytes39 : aBytes Tryd.prog 39 = some 40 := by kernel_rfl
@[go_sem] theorem Tryd.aagg39 : aAgg Tryd.prog 39 = some true := by kernel_rfl
@[go_sem] theorem Tryd.afield39_0 : aField Tryd.prog 39 0 = some (0, 1) := by kernel_rfl
@[go_sem] theorem Tryd.afield39_1 : aField Tryd.prog 39 1 = some (1, 1) := by kernel_rfl
@[go_sem] theorem Tryd.afield39_2 : aField Tryd.prog 39 2 = some (2, 1) := by kernel_rfl
@[go_sem] theorem Tryd.afield39_3 : aField Tryd.prog 39 3 = some (3, 1) := by kernel_rfl
@[go_sem] theorem Tryd.afieldsok39 : aFieldsOk Tryd.prog 39 = true := by kernel_rfl
@[go_sem] theorem Tryd.azero39 : aZero Tryd.prog 39 = some [.sc (.int .i64 (0)), .sc (.string ⟨#[]⟩), .sc (.int .i64 (0)), .sc (.int .i64 (0))] := by kernel_rfl
@[go_sem] theorem Tryd.asize40 : aSize Tryd.prog 40 = some 1 := by kernel_rfl
@[go_sem] theorem Tryd.abytes40 : aBytes Tryd.prog 40 = some 8 := by kernel_rfl
@[go_sem] theorem Tryd.aagg40 : aAgg Tryd.prog 40 = some false := by kernel_rfl
@[go_sem] theorem Tryd.azero40 : aZero Tryd.prog 40 = some [.sc .nilFunc] := by kernel_rfl
@[go_sem] theorem Tryd.asize41 : aSize Tryd.prog 41 = some 1 := by kernel_rfl
@[go_sem] theorem Tryd.abytes41 : aBytes Tryd.prog 41 = some 8 := by kernel_rfl
@[go_sem] theorem Tryd.aagg41 : aAgg Tryd.prog 41 = some false := by kernel_rfl
@[go_sem] theorem Tryd.azero41 : aZero Tryd.prog 41 = some [.sc .nilFunc] := by kernel_rfl
@[go_sem] theorem Tryd.asize42 : aSize Tryd.prog 42 = some 1 := by kernel_rfl
@[go_sem] theorem Tryd.abytes42 : aBytes Tryd.prog 42 = some 8 := by kernel_rfl
@[go_sem] theorem Tryd.aagg42 : aAgg Tryd.prog 42 = some false := by kernel_rfl
@[go_sem] theorem Tryd.azero42 : aZero Tryd.prog 42 = some [.sc .nilFunc] := by kernel_rfl
@[go_sem] theorem Tryd.asize43 : aSize Tryd.prog 43 = some 1 := by kernel_rfl
@[go_sem] theorem Tryd.abytes43 : aBytes Tryd.prog 43 = some 8 := by kernel_rfl
@[go_sem] theorem Tryd.aagg43 : aAgg Tryd.prog 43 = some false := by kernel_rfl
@[go_sem] theorem Tryd.azero43 : aZero Tryd.prog 43 = some [.sc .nilFunc] := by kernel_rfl
@[go_sem] theorem Tryd.asize44 : aSize Tryd.prog 44 = some 1 := by kernel_rfl
@[go_sem] theorem Tryd.abytes44 : aBytes Tryd.prog 44 = some 8 := by kernel_rfl
@[go_sem] theorem Tryd.aagg44 : aAgg Tryd.prog 44 = some false := by kernel_rfl
@[go_sem] theorem Tryd.aisptr44 : aIsPtr Tryd.prog 44 = true := by kernel_rfl
@[go_sem] theorem Tryd.azero44 : aZero Tryd.prog 44 = some [.sc (.pointer none)] := by kernel_rfl
@[go_sem] theorem Tryd.asize45 : aSize Tryd.prog 45 = some 6 := by kernel_rfl
@[go_sem] theorem Tryd.abytes45 : aBytes Tryd.prog 45 = some 64 := by kernel_rfl
@[go_sem] theorem Tryd.aagg45 : aAgg Tryd.prog 45 = some true := by kernel_rfl
@[go_sem] theorem Tryd.afield45_0 : aField Tryd.prog 45 0 = some (0, 1) := by kernel_rfl
@[go_sem] theorem Tryd.afield45_1 : aField Tryd.prog 45 1 = some (1, 1) := by kernel_rfl
@[go_sem] theorem Tryd.afield45_2 : aField Tryd.prog 45 2 = some (2, 1) := by kernel_rfl
@[go_sem] theorem Tryd.afield45_3 : aField Tryd.prog 45 3 = some (3, 1) := by kernel_rfl
@[go_sem] theorem Tryd.afield45_4 : aField Tryd.prog 45 4 = some (4, 1) := by kernel_rfl
@[go_sem] theorem Tryd.afield45_5 : aField Tryd.prog 45 5 = some (5, 1) := by kernel_rfl
@[go_sem] theorem Tryd.afieldsok45 : aFieldsOk Tryd.prog 45 = true := by kernel_rfl
@[go_sem] theorem Tryd.azero45 : aZero Tryd.prog 45 = some [.slice .full 0 [], .sc (.int .i64 (0)), .sc (.int .i64 (0)), .sc (.bool false), .sc (.int .i64 (0)), .sc (.int .i64 (0))] := by kernel_rfl
@[go_sem] theorem Tryd.asize46 : aSize Tryd.prog 46 = some 6 := by kernel_rfl
@[go_sem] theorem Tryd.abytes46 : aBytes Tryd.prog 46 = some 64 := by kernel_rfl
@[go_sem] theorem Tryd.aagg46 : aAgg Tryd.prog 46 = some true := by kernel_rfl
@[go_sem] theorem Tryd.afield46_0 : aField Tryd.prog 46 0 = some (0, 1) := by kernel_rfl
@[go_sem] theorem Tryd.afield46_1 : aField Tryd.prog 46 1 = some (1, 1) := by kernel_rfl
@[go_sem] theorem Tryd.afield46_2 : aField Tryd.prog 46 2 = some (2, 1) := by kernel_rfl
@[go_sem] theorem Tryd.afield46_3 : aField Tryd.prog 46 3 = some (3, 1) := by kernel_rfl
@[go_sem] theorem Tryd.afield46_4 : aField Tryd.prog 46 4 = some (4, 1) := by kernel_rfl
@[go_sem] theorem Tryd.afield46_5 : aField Tryd.prog 46 5 = some (5, 1) := by kernel_rfl
@[go_sem] theorem Tryd.afieldsok46 : aFieldsOk Tryd.prog 46 = true := by kernel_rfl
@[go_sem] theorem Tryd.azero46 : aZero Tryd.prog 46 = some [.slice .full 0 [], .sc (.int .i64 (0)), .sc (.int .i64 (0)), .sc (.bool false), .sc (.int .i64 (0)), .sc (.int .i64 (0))] := by kernel_rfl
@[go_sem] theorem Tryd.asize47 : aSize Tryd.prog 47 = some 1 := by kernel_rfl
@[go_sem] theorem Tryd.abytes47 : aBytes Tryd.prog 47 = some 8 := by kernel_rfl
@[go_sem] theorem Tryd.aagg47 : aAgg Tryd.prog 47 = some false := by kernel_rfl
@[go_sem] theorem Tryd.azero47 : aZero Tryd.prog 47 = some [.sc .nilFunc] := by kernel_rfl
@[go_sem] theorem Tryd.asize48 : aSize Tryd.prog 48 = some 1 := by kernel_rfl
@[go_sem] theorem Tryd.abytes48 : aBytes Tryd.prog 48 = some 0 := by kernel_rfl
@[go_sem] theorem Tryd.aagg48 : aAgg Tryd.prog 48 = some false := by kernel_rfl
@[go_sem] theorem Tryd.asize49 : aSize Tryd.prog 49 = some 1 := by kernel_rfl
@[go_sem] theorem Tryd.abytes49 : aBytes Tryd.prog 49 = some 8 := by kernel_rfl
@[go_sem] theorem Tryd.aagg49 : aAgg Tryd.prog 49 = some false := by kernel_rfl
@[go_sem] theorem Tryd.azero49 : aZero Tryd.prog 49 = some [.sc .nilFunc] := by kernel_rfl
@[go_sem] theorem Tryd.asize50 : aSize Tryd.prog 50 = some 1 := by kernel_rfl
@[go_sem] theorem Tryd.abytes50 : aBytes Tryd.prog 50 = some 8 := by kernel_rfl
@[go_sem] theorem Tryd.aagg50 : aAgg Tryd.prog 50 = some false := by kernel_rfl
@[go_sem] theorem Tryd.azero50 : aZero Tryd.prog 50 = some [.sc .nilFunc] := by kernel_rfl
@[go_sem] theorem Tryd.asize51 : aSize Tryd.prog 51 = some 1 := by kernel_rfl
@[go_sem] theorem Tryd.abytes51 : aBytes Tryd.prog 51 = some 8 := by kernel_rfl
@[go_sem] theorem Tryd.aagg51 : aAgg Tryd.prog 51 = some false := by kernel_rfl
@[go_sem] theorem Tryd.azero51 : aZero Tryd.prog 51 = some [.sc .nilFunc] := by kernel_rfl
@[go_sem] theorem Tryd.asize52 : aSize Tryd.prog 52 = some 1 := by kernel_rfl
@[go_sem] theorem Tryd.abytes52 : aBytes Tryd.prog 52 = some 8 := by kernel_rfl
@[go_sem] theorem Tryd.aagg52 : aAgg Tryd.prog 52 = some false := by kernel_rfl
@[go_sem] theorem Tryd.aisptr52 : aIsPtr Tryd.prog 52 = true := by kernel_rfl
@[go_sem] theorem Tryd.azero52 : aZero Tryd.prog 52 = some [.sc (.pointer none)] := by kernel_rfl
@[go_sem] theorem Tryd.asize53 : aSize Tryd.prog 53 = some 2 := by kernel_rfl
@[go_sem] theorem Tryd.abytes53 : aBytes Tryd.prog 53 = some 24 := by kernel_rfl
@[go_sem] theorem Tryd.aagg53 : aAgg Tryd.prog 53 = some true := by kernel_rfl
@[go_sem] theorem Tryd.afield53_0 : aField Tryd.prog 53 0 = some (0, 1) := by kernel_rfl
@[go_sem] theorem Tryd.afield53_1 : aField Tryd.prog 53 1 = some (1, 1) := by kernel_rfl
@[go_sem] theorem Tryd.afieldsok53 : aFieldsOk Tryd.prog 53 = true := by kernel_rfl
@[go_sem] theorem Tryd.azero53 : aZero Tryd.prog 53 = some [.sc (.string ⟨#[]⟩), .sc (.int .i64 (0))] := by kernel_rfl
@[go_sem] theorem Tryd.asize54 : aSize Tryd.prog 54 = some 2 := by kernel_rfl
@[go_sem] theorem Tryd.abytes54 : aBytes Tryd.prog 54 = some 24 := by kernel_rfl
@[go_sem] theorem Tryd.aagg54 : aAgg Tryd.prog 54 = some true := by kernel_rfl
@[go_sem] theorem Tryd.afield54_0 : aField Tryd.prog 54 0 = some (0, 1) := by kernel_rfl
@[go_sem] theorem Tryd.afield54_1 : aField Tryd.prog 54 1 = some (1, 1) := by kernel_rfl
@[go_sem] theorem Tryd.afieldsok54 : aFieldsOk Tryd.prog 54 = true := by kernel_rfl
@[go_sem] theorem Tryd.azero54 : aZero Tryd.prog 54 = some [.sc (.string ⟨#[]⟩), .sc (.int .i64 (0))] := by kernel_rfl
@[go_sem] theorem Tryd.asize55 : aSize Tryd.prog 55 = some 1 := by kernel_rfl
@[go_sem] theorem Tryd.abytes55 : aBytes Tryd.prog 55 = some 0 := by kernel_rfl
@[go_sem] theorem Tryd.aagg55 : aAgg Tryd.prog 55 = some false := by kernel_rfl
@[go_sem] theorem Tryd.asize56 : aSize Tryd.prog 56 = some 1 := by kernel_rfl
@[go_sem] theorem Tryd.abytes56 : aBytes Tryd.prog 56 = some 8 := by kernel_rfl
@[go_sem] theorem Tryd.aagg56 : aAgg Tryd.prog 56 = some false := by kernel_rfl
@[go_sem] theorem Tryd.azero56 : aZero Tryd.prog 56 = some [.sc .nilFunc] := by kernel_rfl
@[go_sem] theorem Tryd.asize57 : aSize Tryd.prog 57 = some 1 := by kernel_rfl
@[go_sem] theorem Tryd.abytes57 : aBytes Tryd.prog 57 = some 8 := by kernel_rfl
@[go_sem] theorem Tryd.aagg57 : aAgg Tryd.prog 57 = some false := by kernel_rfl
@[go_sem] theorem Tryd.azero57 : aZero Tryd.prog 57 = some [.sc .nilFunc] := by kernel_rfl
@[go_sem] theorem Tryd.asize58 : aSize Tryd.prog 58 = some 1 := by kernel_rfl
@[go_sem] theorem Tryd.abytes58 : aBytes Tryd.prog 58 = some 8 := by kernel_rfl
@[go_sem] theorem Tryd.aagg58 : aAgg Tryd.prog 58 = some false := by kernel_rfl
@[go_sem] theorem Tryd.azero58 : aZero Tryd.prog 58 = some [.sc .nilFunc] := by kernel_rfl
@[go_sem] theorem Tryd.asize59 : aSize Tryd.prog 59 = some 1 := by kernel_rfl
@[go_sem] theorem Tryd.abytes59 : aBytes Tryd.prog 59 = some 8 := by kernel_rfl
@[go_sem] theorem Tryd.aagg59 : aAgg Tryd.prog 59 = some false := by kernel_rfl
@[go_sem] theorem Tryd.azero59 : aZero Tryd.prog 59 = some [.sc .nilFunc] := by kernel_rfl
@[go_sem] theorem Tryd.asize60 : aSize Tryd.prog 60 = some 1 := by kernel_rfl
@[go_sem] theorem Tryd.abytes60 : aBytes Tryd.prog 60 = some 8 := by kernel_rfl
@[go_sem] theorem Tryd.aagg60 : aAgg Tryd.prog 60 = some false := by kernel_rfl
@[go_sem] theorem Tryd.azero60 : aZero Tryd.prog 60 = some [.sc .nilFunc] := by kernel_rfl
@[go_sem] theorem Tryd.asize61 : aSize Tryd.prog 61 = some 1 := by kernel_rfl
@[go_sem] theorem Tryd.abytes61 : aBytes Tryd.prog 61 = some 8 := by kernel_rfl
@[go_sem] theorem Tryd.aagg61 : aAgg Tryd.prog 61 = some false := by kernel_rfl
@[go_sem] theorem Tryd.azero61 : aZero Tryd.prog 61 = some [.sc .nilFunc] := by kernel_rfl
@[go_sem] theorem Tryd.asize62 : aSize Tryd.prog 62 = some 1 := by kernel_rfl
@[go_sem] theorem Tryd.abytes62 : aBytes Tryd.prog 62 = some 8 := by kernel_rfl
@[go_sem] theorem Tryd.aagg62 : aAgg Tryd.prog 62 = some false := by kernel_rfl
@[go_sem] theorem Tryd.azero62 : aZero Tryd.prog 62 = some [.sc .nilFunc] := by kernel_rfl
@[go_sem] theorem Tryd.asize63 : aSize Tryd.prog 63 = some 1 := by kernel_rfl
@[go_sem] theorem Tryd.abytes63 : aBytes Tryd.prog 63 = some 8 := by kernel_rfl
@[go_sem] theorem Tryd.aagg63 : aAgg Tryd.prog 63 = some false := by kernel_rfl
@[go_sem] theorem Tryd.azero63 : aZero Tryd.prog 63 = some [.sc .nilFunc] := by kernel_rfl
@[go_sem] theorem Tryd.asize64 : aSize Tryd.prog 64 = some 1 := by kernel_rfl
@[go_sem] theorem Tryd.abytes64 : aBytes Tryd.prog 64 = some 8 := by kernel_rfl
@[go_sem] theorem Tryd.aagg64 : aAgg Tryd.prog 64 = some false := by kernel_rfl
@[go_sem] theorem Tryd.azero64 : aZero Tryd.prog 64 = some [.sc .nilFunc] := by kernel_rfl
@[go_sem] theorem Tryd.asize65 : aSize Tryd.prog 65 = some 1 := by kernel_rfl
@[go_sem] theorem Tryd.abytes65 : aBytes Tryd.prog 65 = some 0 := by kernel_rfl
@[go_sem] theorem Tryd.aagg65 : aAgg Tryd.prog 65 = some false := by kernel_rfl
@[go_sem] theorem Tryd.asize66 : aSize Tryd.prog 66 = some 1 := by kernel_rfl
@[go_sem] theorem Tryd.abytes66 : aBytes Tryd.prog 66 = some 8 := by kernel_rfl
@[go_sem] theorem Tryd.aagg66 : aAgg Tryd.prog 66 = some false := by kernel_rfl
@[go_sem] theorem Tryd.azero66 : aZero Tryd.prog 66 = some [.sc .nilFunc] := by kernel_rfl
@[go_sem] theorem Tryd.asize67 : aSize Tryd.prog 67 = some 1 := by kernel_rfl
@[go_sem] theorem Tryd.abytes67 : aBytes Tryd.prog 67 = some 8 := by kernel_rfl
@[go_sem] theorem Tryd.aagg67 : aAgg Tryd.prog 67 = some false := by kernel_rfl
@[go_sem] theorem Tryd.azero67 : aZero Tryd.prog 67 = some [.sc .nilFunc] := by kernel_rfl
@[go_sem] theorem Tryd.asize68 : aSize Tryd.prog 68 = some 1 := by kernel_rfl
@[go_sem] theorem Tryd.abytes68 : aBytes Tryd.prog 68 = some 8 := by kernel_rfl
@[go_sem] theorem Tryd.aagg68 : aAgg Tryd.prog 68 = some false := by kernel_rfl
@[go_sem] theorem Tryd.azero68 : aZero Tryd.prog 68 = some [.sc .nilFunc] := by kernel_rfl
@[go_sem] theorem Tryd.asize69 : aSize Tryd.prog 69 = some 1 := by kernel_rfl
@[go_sem] theorem Tryd.abytes69 : aBytes Tryd.prog 69 = some 8 := by kernel_rfl
@[go_sem] theorem Tryd.aagg69 : aAgg Tryd.prog 69 = some false := by kernel_rfl
@[go_sem] theorem Tryd.aisptr69 : aIsPtr Tryd.prog 69 = true := by kernel_rfl
@[go_sem] theorem Tryd.azero69 : aZero Tryd.prog 69 = some [.sc (.pointer none)] := by kernel_rfl
@[go_sem] theorem Tryd.asize70 : aSize Tryd.prog 70 = some 1 := by kernel_rfl
@[go_sem] theorem Tryd.abytes70 : aBytes Tryd.prog 70 = some 0 := by kernel_rfl
@[go_sem] theorem Tryd.aagg70 : aAgg Tryd.prog 70 = some false := by kernel_rfl
@[go_sem] theorem Tryd.asize71 : aSize Tryd.prog 71 = some 1 := by kernel_rfl
@[go_sem] theorem Tryd.abytes71 : aBytes Tryd.prog 71 = some 8 := by kernel_rfl
@[go_sem] theorem Tryd.aagg71 : aAgg Tryd.prog 71 = some false := by kernel_rfl
@[go_sem] theorem Tryd.azero71 : aZero Tryd.prog 71 = some [.sc .nilFunc] := by kernel_rfl
@[go_sem] theorem Tryd.asize72 : aSize Tryd.prog 72 = some 1 := by kernel_rfl
@[go_sem] theorem Tryd.abytes72 : aBytes Tryd.prog 72 = some 8 := by kernel_rfl
@[go_sem] theorem Tryd.aagg72 : aAgg Tryd.prog 72 = some false := by kernel_rfl
@[go_sem] theorem Tryd.azero72 : aZero Tryd.prog 72 = some [.sc (.map none)] := by kernel_rfl
@[go_sem] theorem Tryd.asize73 : aSize Tryd.prog 73 = some 1 := by kernel_rfl
@[go_sem] theorem Tryd.abytes73 : aBytes Tryd.prog 73 = some 8 := by kernel_rfl
@[go_sem] theorem Tryd.aagg73 : aAgg Tryd.prog 73 = some false := by kernel_rfl
@[go_sem] theorem Tryd.azero73 : aZero Tryd.prog 73 = some [.sc .nilFunc] := by kernel_rfl
@[go_sem] theorem Tryd.asize74 : aSize Tryd.prog 74 = some 1 := by kernel_rfl
@[go_sem] theorem Tryd.abytes74 : aBytes Tryd.prog 74 = some 24 := by kernel_rfl
@[go_sem] theorem Tryd.aagg74 : aAgg Tryd.prog 74 = some false := by kernel_rfl
@[go_sem] theorem Tryd.aelem74 : aElem Tryd.prog 74 = some 5 := by kernel_rfl
@[go_sem] theorem Tryd.azero74 : aZero Tryd.prog 74 = some [.slice .full 0 []] := by kernel_rfl
@[go_sem] theorem Tryd.asize75 : aSize Tryd.prog 75 = some 1 := by kernel_rfl
@[go_sem] theorem Tryd.abytes75 : aBytes Tryd.prog 75 = some 8 := by kernel_rfl
@[go_sem] theorem Tryd.aagg75 : aAgg Tryd.prog 75 = some false := by kernel_rfl
@[go_sem] theorem Tryd.azero75 : aZero Tryd.prog 75 = some [.sc .nilFunc] := by kernel_rfl
@[go_sem] theorem Tryd.asize76 : aSize Tryd.prog 76 = some 1 := by kernel_rfl
@[go_sem] theorem Tryd.abytes76 : aBytes Tryd.prog 76 = some 8 := by kernel_rfl
@[go_sem] theorem Tryd.aagg76 : aAgg Tryd.prog 76 = some false := by kernel_rfl
@[go_sem] theorem Tryd.azero76 : aZero Tryd.prog 76 = some [.sc .nilFunc] := by kernel_rfl
@[go_sem] theorem Tryd.asize77 : aSize Tryd.prog 77 = some 1 := by kernel_rfl
@[go_sem] theorem Tryd.abytes77 : aBytes Tryd.prog 77 = some 8 := by kernel_rfl
@[go_sem] theorem Tryd.aagg77 : aAgg Tryd.prog 77 = some false := by kernel_rfl
@[go_sem] theorem Tryd.azero77 : aZero Tryd.prog 77 = some [.sc .nilFunc] := by kernel_rfl
@[go_sem] theorem Tryd.asize78 : aSize Tryd.prog 78 = some 1 := by kernel_rfl
@[go_sem] theorem Tryd.abytes78 : aBytes Tryd.prog 78 = some 0 := by kernel_rfl
@[go_sem] theorem Tryd.aagg78 : aAgg Tryd.prog 78 = some false := by kernel_rfl
@[go_sem] theorem Tryd.asize79 : aSize Tryd.prog 79 = some 1 := by kernel_rfl
@[go_sem] theorem Tryd.abytes79 : aBytes Tryd.prog 79 = some 8 := by kernel_rfl
@[go_sem] theorem Tryd.aagg79 : aAgg Tryd.prog 79 = some false := by kernel_rfl
@[go_sem] theorem Tryd.azero79 : aZero Tryd.prog 79 = some [.sc .nilFunc] := by kernel_rfl
@[go_sem] theorem Tryd.asize80 : aSize Tryd.prog 80 = some 1 := by kernel_rfl
@[go_sem] theorem Tryd.abytes80 : aBytes Tryd.prog 80 = some 8 := by kernel_rfl
@[go_sem] theorem Tryd.aagg80 : aAgg Tryd.prog 80 = some false := by kernel_rfl
@[go_sem] theorem Tryd.azero80 : aZero Tryd.prog 80 = some [.sc .nilFunc] := by kernel_rfl
@[go_sem] theorem Tryd.asize81 : aSize Tryd.prog 81 = some 1 := by kernel_rfl
@[go_sem] theorem Tryd.abytes81 : aBytes Tryd.prog 81 = some 8 := by kernel_rfl
@[go_sem] theorem Tryd.aagg81 : aAgg Tryd.prog 81 = some false := by kernel_rfl
@[go_sem] theorem Tryd.azero81 : aZero Tryd.prog 81 = some [.sc .nilFunc] := by kernel_rfl
@[go_sem] theorem Tryd.asize82 : aSize Tryd.prog 82 = some 1 := by kernel_rfl
@[go_sem] theorem Tryd.abytes82 : aBytes Tryd.prog 82 = some 8 := by kernel_rfl
@[go_sem] theorem Tryd.aagg82 : aAgg Tryd.prog 82 = some false := by kernel_rfl
@[go_sem] theorem Tryd.azero82 : aZero Tryd.prog 82 = some [.sc .nilFunc] := by kernel_rfl
@[go_sem] theorem Tryd.asize83 : aSize Tryd.prog 83 = some 1 := by kernel_rfl
@[go_sem] theorem Tryd.abytes83 : aBytes Tryd.prog 83 = some 8 := by kernel_rfl
@[go_sem] theorem Tryd.aagg83 : aAgg Tryd.prog 83 = some false := by kernel_rfl
@[go_sem] theorem Tryd.azero83 : aZero Tryd.prog 83 = some [.sc .nilFunc] := by kernel_rfl
@[go_sem] theorem Tryd.asize84 : aSize Tryd.prog 84 = some 256 := by kernel_rfl
@[go_sem] theorem Tryd.abytes84 : aBytes Tryd.prog 84 = some 256 := by kernel_rfl
@[go_sem] theorem Tryd.aagg84 : aAgg Tryd.prog 84 = some true := by kernel_rfl
@[go_sem] theorem Tryd.aarr84 : aArr Tryd.prog 84 = some (256, 1) := by kernel_rfl
@[go_sem] theorem Tryd.aarrO84 : aArr1 Tryd.prog 84 = some 256 := by kernel_rfl
@[go_sem] theorem Tryd.asize85 : aSize Tryd.prog 85 = some 256 := by kernel_rfl
@[go_sem] theorem Tryd.abytes85 : aBytes Tryd.prog 85 = some 256 := by kernel_rfl
@[go_sem] theorem Tryd.aagg85 : aAgg Tryd.prog 85 = some true := by kernel_rfl
@[go_sem] theorem Tryd.aarr85 : aArr Tryd.prog 85 = some (256, 1) := by kernel_rfl
@[go_sem] theorem Tryd.aarrO85 : aArr1 Tryd.prog 85 = some 256 := by kernel_rfl
@[go_sem] theorem Tryd.asize86 : aSize Tryd.prog 86 = some 1 := by kernel_rfl
@[go_sem] theorem Tryd.abytes86 : aBytes Tryd.prog 86 = some 0 := by kernel_rfl
@[go_sem] theorem Tryd.aagg86 : aAgg Tryd.prog 86 = some false := by kernel_rfl
@[go_sem] theorem Tryd.asize87 : aSize Tryd.prog 87 = some 1 := by kernel_rfl
@[go_sem] theorem Tryd.abytes87 : aBytes Tryd.prog 87 = some 8 := by kernel_rfl
@[go_sem] theorem Tryd.aagg87 : aAgg Tryd.prog 87 = some false := by kernel_rfl
@[go_sem] theorem Tryd.azero87 : aZero Tryd.prog 87 = some [.sc .nilFunc] := by kernel_rfl
@[go_sem] theorem Tryd.asize88 : aSize Tryd.prog 88 = some 1 := by kernel_rfl
@[go_sem] theorem Tryd.abytes88 : aBytes Tryd.prog 88 = some 8 := by kernel_rfl
@[go_sem] theorem Tryd.aagg88 : aAgg Tryd.prog 88 = some false := by kernel_rfl
@[go_sem] theorem Tryd.azero88 : aZero Tryd.prog 88 = some [.sc .nilFunc] := by kernel_rfl
@[go_sem] theorem Tryd.asize89 : aSize Tryd.prog 89 = some 1 := by kernel_rfl
@[go_sem] theorem Tryd.abytes89 : aBytes Tryd.prog 89 = some 8 := by kernel_rfl
@[go_sem] theorem Tryd.aagg89 : aAgg Tryd.prog 89 = some false := by kernel_rfl
@[go_sem] theorem Tryd.aisptr89 : aIsPtr Tryd.prog 89 = true := by kernel_rfl
@[go_sem] theorem Tryd.azero89 : aZero Tryd.prog 89 = some [.sc (.pointer none)] := by kernel_rfl
@[go_sem] theorem Tryd.asize90 : aSize Tryd.prog 90 = some 1 := by kernel_rfl
@[go_sem] theorem Tryd.abytes90 : aBytes Tryd.prog 90 = some 0 := by kernel_rfl
@[go_sem] theorem Tryd.aagg90 : aAgg Tryd.prog 90 = some false := by kernel_rfl
@[go_sem] theorem Tryd.asize91 : aSize Tryd.prog 91 = some 1 := by kernel_rfl
@[go_sem] theorem Tryd.abytes91 : aBytes Tryd.prog 91 = some 8 := by kernel_rfl
@[go_sem] theorem Tryd.aagg91 : aAgg Tryd.prog 91 = some false := by kernel_rfl
@[go_sem] theorem Tryd.azero91 : aZero Tryd.prog 91 = some [.sc .nilFunc] := by kernel_rfl
@[go_sem] theorem Tryd.asize92 : aSize Tryd.prog 92 = some 1 := by kernel_rfl
@[go_sem] theorem Tryd.abytes92 : aBytes Tryd.prog 92 = some 8 := by kernel_rfl
@[go_sem] theorem Tryd.aagg92 : aAgg Tryd.prog 92 = some false := by kernel_rfl
@[go_sem] theorem Tryd.azero92 : aZero Tryd.prog 92 = some [.sc .nilFunc] := by kernel_rfl
@[go_sem] theorem Tryd.asize93 : aSize Tryd.prog 93 = some 1 := by kernel_rfl
@[go_sem] theorem Tryd.abytes93 : aBytes Tryd.prog 93 = some 0 := by kernel_rfl
@[go_sem] theorem Tryd.aagg93 : aAgg Tryd.prog 93 = some false := by kernel_rfl
@[go_sem] theorem Tryd.asize94 : aSize Tryd.prog 94 = some 1 := by kernel_rfl
@[go_sem] theorem Tryd.abytes94 : aBytes Tryd.prog 94 = some 8 := by kernel_rfl
@[go_sem] theorem Tryd.aagg94 : aAgg Tryd.prog 94 = some false := by kernel_rfl
@[go_sem] theorem Tryd.azero94 : aZero Tryd.prog 94 = some [.sc .nilFunc] := by kernel_rfl
@[go_sem] theorem Tryd.asize95 : aSize Tryd.prog 95 = some 1 := by kernel_rfl
@[go_sem] theorem Tryd.abytes95 : aBytes Tryd.prog 95 = some 8 := by kernel_rfl
@[go_sem] theorem Tryd.aagg95 : aAgg Tryd.prog 95 = some false := by kernel_rfl
@[go_sem] theorem Tryd.azero95 : aZero Tryd.prog 95 = some [.sc .nilFunc] := by kernel_rfl
@[go_sem] theorem Tryd.asize96 : aSize Tryd.prog 96 = some 1 := by kernel_rfl
@[go_sem] theorem Tryd.abytes96 : aBytes Tryd.prog 96 = some 0 := by kernel_rfl
@[go_sem] theorem Tryd.aagg96 : aAgg Tryd.prog 96 = some false := by kernel_rfl
@[go_sem] theorem Tryd.asize97 : aSize Tryd.prog 97 = some 1 := by kernel_rfl
@[go_sem] theorem Tryd.abytes97 : aBytes Tryd.prog 97 = some 8 := by kernel_rfl
@[go_sem] theorem Tryd.aagg97 : aAgg Tryd.prog 97 = some false := by kernel_rfl
@[go_sem] theorem Tryd.azero97 : aZero Tryd.prog 97 = some [.sc .nilFunc] := by kernel_rfl
@[go_sem] theorem Tryd.asize98 : aSize Tryd.prog 98 = some 1 := by kernel_rfl
@[go_sem] theorem Tryd.abytes98 : aBytes Tryd.prog 98 = some 8 := by kernel_rfl
@[go_sem] theorem Tryd.aagg98 : aAgg Tryd.prog 98 = some false := by kernel_rfl
@[go_sem] theorem Tryd.azero98 : aZero Tryd.prog 98 = some [.sc .nilFunc] := by kernel_rfl
@[go_sem] theorem Tryd.asize99 : aSize Tryd.prog 99 = some 1 := by kernel_rfl
@[go_sem] theorem Tryd.abytes99 : aBytes Tryd.prog 99 = some 0 := by kernel_rfl
@[go_sem] theorem Tryd.aagg99 : aAgg Tryd.prog 99 = some false := by kernel_rfl
@[go_sem] theorem Tryd.asize100 : aSize Tryd.prog 100 = some 1 := by kernel_rfl
@[go_sem] theorem Tryd.abytes100 : aBytes Tryd.prog 100 = some 8 := by kernel_rfl
@[go_sem] theorem Tryd.aagg100 : aAgg Tryd.prog 100 = some false := by kernel_rfl
theorem Tryd.amap100 : aMap Tryd.prog 100 = some (5, .int .u8, 5) := by kernel_rfl
theorem Tryd.zeroSV5 : zeroSV Tryd.prog 5 = some (.sc (.int .u8 (0))) := by kernel_rfl
@[go_sem] theorem Tryd.azero100 : aZero Tryd.prog 100 = some [.sc (.map none)] := by kernel_rfl
@[go_sem] theorem Tryd.asize101 : aSize Tryd.prog 101 = some 1 := by kernel_rfl
@[go_sem] theorem Tryd.abytes101 : aBytes Tryd.prog 101 = some 8 := by kernel_rfl
@[go_sem] theorem Tryd.aagg101 : aAgg Tryd.prog 101 = some false := by kernel_rfl
@[go_sem] theorem Tryd.azero101 : aZero Tryd.prog 101 = some [.sc .nilFunc] := by kernel_rfl
@[go_sem] theorem Tryd.asize102 : aSize Tryd.prog 102 = some 16 := by kernel_rfl
@[go_sem] theorem Tryd.abytes102 : aBytes Tryd.prog 102 = some 16 := by kernel_rfl
@[go_sem] theorem Tryd.aagg102 : aAgg Tryd.prog 102 = some true := by kernel_rfl
@[go_sem] theorem Tryd.aarr102 : aArr Tryd.prog 102 = some (16, 1) := by kernel_rfl
@[go_sem] theorem Tryd.aarrO102 : aArr1 Tryd.prog 102 = some 16 := by kernel_rfl
@[go_sem] theorem Tryd.azero102 : aZero Tryd.prog 102 = some [.sc (.int .u8 (0)), .sc (.int .u8 (0)), .sc (.int .u8 (0)), .sc (.int .u8 (0)), .sc (.int .u8 (0)), .sc (.int .u8 (0)), .sc (.int .u8 (0)), .sc (.int .u8 (0)), .sc (.int .u8 (0)), .sc (.int .u8 (0)), .sc (.int .u8 (0)), .sc (.int .u8 (0)), .sc (.int .u8 (0)), .sc (.int .u8 (0)), .sc (.int .u8 (0)), .sc (.int .u8 (0))] := by kernel_rfl
@[go_sem] theorem Tryd.asize103 : aSize Tryd.prog 103 = some 1 := by kernel_rfl
@[go_sem] theorem Tryd.abytes103 : aBytes Tryd.prog 103 = some 8 := by kernel_rfl
@[go_sem] theorem Tryd.aagg103 : aAgg Tryd.prog 103 = some false := by kernel_rfl
@[go_sem] theorem Tryd.azero103 : aZero Tryd.prog 103 = some [.sc .nilFunc] := by kernel_rfl
@[go_sem] theorem Tryd.asize104 : aSize Tryd.prog 104 = some 1 := by kernel_rfl
@[go_sem] theorem Tryd.abytes104 : aBytes Tryd.prog 104 = some 8 := by kernel_rfl
@[go_sem] theorem Tryd.aagg104 : aAgg Tryd.prog 104 = some false := by kernel_rfl
@[go_sem] theorem Tryd.azero104 : aZero Tryd.prog 104 = some [.sc .nilFunc] := by kernel_rfl
@[go_sem] theorem Tryd.asize105 : aSize Tryd.prog 105 = some 1 := by kernel_rfl
@[go_sem] theorem Tryd.abytes105 : aBytes Tryd.prog 105 = some 8 := by kernel_rfl
@[go_sem] theorem Tryd.aagg105 : aAgg Tryd.prog 105 = some false := by kernel_rfl
@[go_sem] theorem Tryd.azero105 : aZero Tryd.prog 105 = some [.sc .nilFunc] := by kernel_rfl
@[go_sem] theorem Tryd.asize106 : aSize Tryd.prog 106 = some 1 := by kernel_rfl
@[go_sem] theorem Tryd.abytes106 : aBytes Tryd.prog 106 = some 0 := by kernel_rfl
@[go_sem] theorem Tryd.aagg106 : aAgg Tryd.prog 106 = some false := by kernel_rfl
@[go_sem] theorem Tryd.asize107 : aSize Tryd.prog 107 = some 1 := by kernel_rfl
@[go_sem] theorem Tryd.abytes107 : aBytes Tryd.prog 107 = some 8 := by kernel_rfl
@[go_sem] theorem Tryd.aagg107 : aAgg Tryd.prog 107 = some false := by kernel_rfl
@[go_sem] theorem Tryd.azero107 : aZero Tryd.prog 107 = some [.sc .nilFunc] := by kernel_rfl
@[go_sem] theorem Tryd.asize108 : aSize Tryd.prog 108 = some 1 := by kernel_rfl
@[go_sem] theorem Tryd.abytes108 : aBytes Tryd.prog 108 = some 8 := by kernel_rfl
@[go_sem] theorem Tryd.aagg108 : aAgg Tryd.prog 108 = some false := by kernel_rfl
@[go_sem] theorem Tryd.azero108 : aZero Tryd.prog 108 = some [.sc .nilFunc] := by kernel_rfl
@[go_sem] theorem Tryd.asize109 : aSize Tryd.prog 109 = some 1 := by kernel_rfl
@[go_sem] theorem Tryd.abytes109 : aBytes Tryd.prog 109 = some 8 := by kernel_rfl
@[go_sem] theorem Tryd.aagg109 : aAgg Tryd.prog 109 = some false := by kernel_rfl
@[go_sem] theorem Tryd.azero109 : aZero Tryd.prog 109 = some [.sc .nilFunc] := by kernel_rfl
@[go_sem] theorem Tryd.asize110 : aSize Tryd.prog 110 = some 1 := by kernel_rfl
@[go_sem] theorem Tryd.abytes110 : aBytes Tryd.prog 110 = some 8 := by kernel_rfl
@[go_sem] theorem Tryd.aagg110 : aAgg Tryd.prog 110 = some false := by kernel_rfl
@[go_sem] theorem Tryd.azero110 : aZero Tryd.prog 110 = some [.sc .nilFunc] := by kernel_rfl
@[go_sem] theorem Tryd.asize111 : aSize Tryd.prog 111 = some 1 := by kernel_rfl
@[go_sem] theorem Tryd.abytes111 : aBytes Tryd.prog 111 = some 8 := by kernel_rfl
@[go_sem] theorem Tryd.aagg111 : aAgg Tryd.prog 111 = some false := by kernel_rfl
theorem Tryd.amap111 : aMap Tryd.prog 111 = some (3, .int .i64, 3) := by kernel_rfl
theorem Tryd.zeroSV3 : zeroSV Tryd.prog 3 = some (.sc (.int .i64 (0))) := by kernel_rfl
@[go_sem] theorem Tryd.azero111 : aZero Tryd.prog 111 = some [.sc (.map none)] := by kernel_rfl
@[go_sem] theorem Tryd.asize112 : aSize Tryd.prog 112 = some 256 := by kernel_rfl
@[go_sem] theorem Tryd.abytes112 : aBytes Tryd.prog 112 = some 256 := by kernel_rfl
@[go_sem] theorem Tryd.aagg112 : aAgg Tryd.prog 112 = some true := by kernel_rfl
@[go_sem] theorem Tryd.aarr112 : aArr Tryd.prog 112 = some (256, 1) := by kernel_rfl
@[go_sem] theorem Tryd.aarrO112 : aArr1 Tryd.prog 112 = some 256 := by kernel_rfl
@[go_sem] theorem Tryd.asize113 : aSize Tryd.prog 113 = some 1 := by kernel_rfl
@[go_sem] theorem Tryd.abytes113 : aBytes Tryd.prog 113 = some 8 := by kernel_rfl
@[go_sem] theorem Tryd.aagg113 : aAgg Tryd.prog 113 = some false := by kernel_rfl
@[go_sem] theorem Tryd.azero113 : aZero Tryd.prog 113 = some [.sc (.int .u64 (0))] := by kernel_rfl
@[go_sem] theorem Tryd.asize114 : aSize Tryd.prog 114 = some 2 := by kernel_rfl
@[go_sem] theorem Tryd.abytes114 : aBytes Tryd.prog 114 = some 2 := by kernel_rfl
@[go_sem] theorem Tryd.aagg114 : aAgg Tryd.prog 114 = some true := by kernel_rfl
@[go_sem] theorem Tryd.afield114_0 : aField Tryd.prog 114 0 = some (0, 1) := by kernel_rfl
@[go_sem] theorem Tryd.afield114_1 : aField Tryd.prog 114 1 = some (1, 1) := by kernel_rfl
@[go_sem] theorem Tryd.afieldsok114 : aFieldsOk Tryd.prog 114 = true := by kernel_rfl
@[go_sem] theorem Tryd.azero114 : aZero Tryd.prog 114 = some [.sc (.int .u8 (0)), .sc (.int .u8 (0))] := by kernel_rfl
@[go_sem] theorem Tryd.asize115 : aSize Tryd.prog 115 = some 2 := by kernel_rfl
@[go_sem] theorem Tryd.abytes115 : aBytes Tryd.prog 115 = some 2 := by kernel_rfl
@[go_sem] theorem Tryd.aagg115 : aAgg Tryd.prog 115 = some true := by kernel_rfl
@[go_sem] theorem Tryd.afield115_0 : aField Tryd.prog 115 0 = some (0, 1) := by kernel_rfl
@[go_sem] theorem Tryd.afield115_1 : aField Tryd.prog 115 1 = some (1, 1) := by kernel_rfl
@[go_sem] theorem Tryd.afieldsok115 : aFieldsOk Tryd.prog 115 = true := by kernel_rfl
@[go_sem] theorem Tryd.azero115 : aZero Tryd.prog 115 = some [.sc (.int .u8 (0)), .sc (.int .u8 (0))] := by kernel_rfl
@[go_sem] theorem Tryd.asize116 : aSize Tryd.prog 116 = some 32 := by kernel_rfl
@[go_sem] theorem Tryd.abytes116 : aBytes Tryd.prog 116 = some 32 := by kernel_rfl
@[go_sem] theorem Tryd.aagg116 : aAgg Tryd.prog 116 = some true := by kernel_rfl
@[go_sem] theorem Tryd.aarr116 : aArr Tryd.prog 116 = some (16, 2) := by kernel_rfl
@[go_sem] theorem Tryd.azero116 : aZero Tryd.prog 116 = some [.sc (.int .u8 (0)), .sc (.int .u8 (0)), .sc (.int .u8 (0)), .sc (.int .u8 (0)), .sc (.int .u8 (0)), .sc (.int .u8 (0)), .sc (.int .u8 (0)), .sc (.int .u8 (0)), .sc (.int .u8 (0)), .sc (.int .u8 (0)), .sc (.int .u8 (0)), .sc (.int .u8 (0)), .sc (.int .u8 (0)), .sc (.int .u8 (0)), .sc (.int .u8 (0)), .sc (.int .u8 (0)), .sc (.int .u8 (0)), .sc (.int .u8 (0)), .sc (.int .u8 (0)), .sc (.int .u8 (0)), .sc (.int .u8 (0)), .sc (.int .u8 (0)), .sc (.int .u8 (0)), .sc (.int .u8 (0)), .sc (.int .u8 (0)), .sc (.int .u8 (0)), .sc (.int .u8 (0)), .sc (.int .u8 (0)), .sc (.int .u8 (0)), .sc (.int .u8 (0)), .sc (.int .u8 (0)), .sc (.int .u8 (0))] := by kernel_rfl
@[go_sem] theorem Tryd.asize117 : aSize Tryd.prog 117 = some 1 := by kernel_rfl
@[go_sem] theorem Tryd.abytes117 : aBytes Tryd.prog 117 = some 8 := by kernel_rfl
@[go_sem] theorem Tryd.aagg117 : aAgg Tryd.prog 117 = some false := by kernel_rfl
@[go_sem] theorem Tryd.azero117 : aZero Tryd.prog 117 = some [.sc .nilFunc] := by kernel_rfl
@[go_sem] theorem Tryd.asize118 : aSize Tryd.prog 118 = some 1 := by kernel_rfl
@[go_sem] theorem Tryd.abytes118 : aBytes Tryd.prog 118 = some 8 := by kernel_rfl
@[go_sem] theorem Tryd.aagg118 : aAgg Tryd.prog 118 = some false := by kernel_rfl
@[go_sem] theorem Tryd.azero118 : aZero Tryd.prog 118 = some [.sc .nilFunc] := by kernel_rfl
@[go_sem] theorem Tryd.asize119 : aSize Tryd.prog 119 = some 1 := by kernel_rfl
@[go_sem] theorem Tryd.abytes119 : aBytes Tryd.prog 119 = some 4 := by kernel_rfl
@[go_sem] theorem Tryd.aagg119 : aAgg Tryd.prog 119 = some false := by kernel_rfl
@[go_sem] theorem Tryd.azero119 : aZero Tryd.prog 119 = some [.sc (.int .u32 (0))] := by kernel_rfl
@[go_sem] theorem Tryd.asize120 : aSize Tryd.prog 120 = some 1 := by kernel_rfl
@[go_sem] theorem Tryd.abytes120 : aBytes Tryd.prog 120 = some 0 := by kernel_rfl
@[go_sem] theorem Tryd.aagg120 : aAgg Tryd.prog 120 = some false := by kernel_rfl
@[go_sem] theorem Tryd.asize121 : aSize Tryd.prog 121 = some 1 := by kernel_rfl
@[go_sem] theorem Tryd.abytes121 : aBytes Tryd.prog 121 = some 8 := by kernel_rfl
@[go_sem] theorem Tryd.aagg121 : aAgg Tryd.prog 121 = some false := by kernel_rfl
@[go_sem] theorem Tryd.azero121 : aZero Tryd.prog 121 = some [.sc .nilFunc] := by kernel_rfl
@[go_sem] theorem Tryd.asize122 : aSize Tryd.prog 122 = some 1 := by kernel_rfl
@[go_sem] theorem Tryd.abytes122 : aBytes Tryd.prog 122 = some 8 := by kernel_rfl
@[go_sem] theorem Tryd.aagg122 : aAgg Tryd.prog 122 = some false := by kernel_rfl
@[go_sem] theorem Tryd.azero122 : aZero Tryd.prog 122 = some [.sc .nilFunc] := by kernel_rfl
@[go_sem] theorem Tryd.asize123 : aSize Tryd.prog 123 = some 4 := by kernel_rfl
@[go_sem] theorem Tryd.abytes123 : aBytes Tryd.prog 123 = some 40 := by kernel_rfl
@[go_sem] theorem Tryd.aagg123 : aAgg Tryd.prog 123 = some true := by kernel_rfl
@[go_sem] theorem Tryd.afield123_0 : aField Tryd.prog 123 0 = some (0, 1) := by kernel_rfl
@[go_sem] theorem Tryd.afield123_1 : aField Tryd.prog 123 1 = some (1, 1) := by kernel_rfl
@[go_sem] theorem Tryd.afield123_2 : aField Tryd.prog 123 2 = some (2, 1) := by kernel_rfl
@[go_sem] theorem Tryd.afield123_3 : aField Tryd.prog 123 3 = some (3, 1) := by kernel_rfl
@[go_sem] theorem Tryd.afieldsok123 : aFieldsOk Tryd.prog 123 = true := by kernel_rfl
@[go_sem] theorem Tryd.azero123 : aZero Tryd.prog 123 = some [.sc (.pointer none), .sc (.pointer none), .sc (.pointer none), .sc (.string ⟨#[]⟩)] := by kernel_rfl
@[go_sem] theorem Tryd.asize124 : aSize Tryd.prog 124 = some 4 := by kernel_rfl
@[go_sem] theorem Tryd.abytes124 : aBytes Tryd.prog 124 = some 40 := by kernel_rfl
@[go_sem] theorem Tryd.aagg124 : aAgg Tryd.prog 124 = some true := by kernel_rfl
@[go_sem] theorem Tryd.afield124_0 : aField Tryd.prog 124 0 = some (0, 1) := by kernel_rfl
@[go_sem] theorem Tryd.afield124_1 : aField Tryd.prog 124 1 = some (1, 1) := by kernel_rfl
@[go_sem] theorem Tryd.afield124_2 : aField Tryd.prog 124 2 = some (2, 1) := by kernel_rfl
@[go_sem] theorem Tryd.afield124_3 : aField Tryd.prog 124 3 = some (3, 1) := by kernel_rfl
@[go_sem] theorem Tryd.afieldsok124 : aFieldsOk Tryd.prog 124 = true := by kernel_rfl
@[go_sem] theorem Tryd.azero124 : aZero Tryd.prog 124 = some [.sc (.pointer none), .sc (.pointer none), .sc (.pointer none), .sc (.string ⟨#[]⟩)] := by kernel_rfl
@[go_sem] theorem Tryd.asize128 : aSize Tryd.prog 128 = some 1 := by kernel_rfl
@[go_sem] theorem Tryd.abytes128 : aBytes Tryd.prog 128 = some 8 := by kernel_rfl
@[go_sem] theorem Tryd.aagg128 : aAgg Tryd.prog 128 = some false := by kernel_rfl
@[go_sem] theorem Tryd.azero128 : aZero Tryd.prog 128 = some [.sc .nilFunc] := by kernel_rfl
@[go_sem] theorem Tryd.asize129 : aSize Tryd.prog 129 = some 1 := by kernel_rfl
@[go_sem] theorem Tryd.abytes129 : aBytes Tryd.prog 129 = some 1 := by kernel_rfl
@[go_sem] theorem Tryd.aagg129 : aAgg Tryd.prog 129 = some false := by kernel_rfl
@[go_sem] theorem Tryd.azero129 : aZero Tryd.prog 129 = some [.sc (.int .u8 (0))] := by kernel_rfl
@[go_sem] theorem Tryd.asize130 : aSize Tryd.prog 130 = some 1 := by kernel_rfl
@[go_sem] theorem Tryd.abytes130 : aBytes Tryd.prog 130 = some 1 := by kernel_rfl
@[go_sem] theorem Tryd.aagg130 : aAgg Tryd.prog 130 = some false := by kernel_rfl
@[go_sem] theorem Tryd.azero130 : aZero Tryd.prog 130 = some [.sc (.int .u8 (0))] := by kernel_rfl
@[go_sem] theorem Tryd.asize131 : aSize Tryd.prog 131 = some 1 := by kernel_rfl
@[go_sem] theorem Tryd.abytes131 : aBytes Tryd.prog 131 = some 8 := by kernel_rfl
@[go_sem] theorem Tryd.aagg131 : aAgg Tryd.prog 131 = some false := by kernel_rfl
@[go_sem] theorem Tryd.azero131 : aZero Tryd.prog 131 = some [.sc .nilFunc] := by kernel_rfl
@[go_sem] theorem Tryd.asize132 : aSize Tryd.prog 132 = some 1 := by kernel_rfl
@[go_sem] theorem Tryd.abytes132 : aBytes Tryd.prog 132 = some 8 := by kernel_rfl
@[go_sem] theorem Tryd.aagg132 : aAgg Tryd.prog 132 = some false := by kernel_rfl
@[go_sem] theorem Tryd.aisptr132 : aIsPtr Tryd.prog 132 = true := by kernel_rfl
@[go_sem] theorem Tryd.azero132 : aZero Tryd.prog 132 = some [.sc (.pointer none)] := by kernel_rfl
@[go_sem] theorem Tryd.asize133 : aSize Tryd.prog 133 = some 1 := by kernel_rfl
@[go_sem] theorem Tryd.abytes133 : aBytes Tryd.prog 133 = some 4 := by kernel_rfl
@[go_sem] theorem Tryd.aagg133 : aAgg Tryd.prog 133 = some false := by kernel_rfl
@[go_sem] theorem Tryd.azero133 : aZero Tryd.prog 133 = some [.sc (.int .i32 (0))] := by kernel_rfl
@[go_sem] theorem Tryd.asize134 : aSize Tryd.prog 134 = some 1 := by kernel_rfl
@[go_sem] theorem Tryd.abytes134 : aBytes Tryd.prog 134 = some 4 := by kernel_rfl
@[go_sem] theorem Tryd.aagg134 : aAgg Tryd.prog 134 = some false := by kernel_rfl
@[go_sem] theorem Tryd.azero134 : aZero Tryd.prog 134 = some [.sc (.int .i32 (0))] := by kernel_rfl
@[go_sem] theorem Tryd.asize135 : aSize Tryd.prog 135 = some 11 := by kernel_rfl
@[go_sem] theorem Tryd.abytes135 : aBytes Tryd.prog 135 = some 48 := by kernel_rfl
@[go_sem] theorem Tryd.aagg135 : aAgg Tryd.prog 135 = some true := by kernel_rfl
@[go_sem] theorem Tryd.afield135_0 : aField Tryd.prog 135 0 = some (0, 1) := by kernel_rfl
@[go_sem] theorem Tryd.afield135_1 : aField Tryd.prog 135 1 = some (1, 1) := by kernel_rfl
@[go_sem] theorem Tryd.afield135_2 : aField Tryd.prog 135 2 = some (2, 1) := by kernel_rfl
@[go_sem] theorem Tryd.afield135_3 : aField Tryd.prog 135 3 = some (3, 1) := by kernel_rfl
@[go_sem] theorem Tryd.afield135_4 : aField Tryd.prog 135 4 = some (4, 1) := by kernel_rfl
@[go_sem] theorem Tryd.afield135_5 : aField Tryd.prog 135 5 = some (5, 1) := by kernel_rfl
@[go_sem] theorem Tryd.afield135_6 : aField Tryd.prog 135 6 = some (6, 1) := by kernel_rfl
@[go_sem] theorem Tryd.afield135_7 : aField Tryd.prog 135 7 = some (7, 1) := by kernel_rfl
@[go_sem] theorem Tryd.afield135_8 : aField Tryd.prog 135 8 = some (8, 1) := by kernel_rfl
@[go_sem] theorem Tryd.afield135_9 : aField Tryd.prog 135 9 = some (9, 1) := by kernel_rfl
@[go_sem] theorem Tryd.afield135_10 : aField Tryd.prog 135 10 = some (10, 1) := by kernel_rfl
@[go_sem] theorem Tryd.afieldsok135 : aFieldsOk Tryd.prog 135 = true := by kernel_rfl
@[go_sem] theorem Tryd.azero135 : aZero Tryd.prog 135 = some [.sc (.int .u64 (0)), .sc (.int .u64 (0)), .sc (.int .u32 (0)), .sc (.int .u8 (0)), .sc (.int .u8 (0)), .sc (.int .u8 (0)), .sc (.int .u8 (0)), .sc .nilFunc, .sc (.pointer none), .sc (.int .i32 (0)), .sc (.int .i32 (0))] := by kernel_rfl
@[go_sem] theorem Tryd.asize136 : aSize Tryd.prog 136 = some 11 := by kernel_rfl
@[go_sem] theorem Tryd.abytes136 : aBytes Tryd.prog 136 = some 48 := by kernel_rfl
@[go_sem] theorem Tryd.aagg136 : aAgg Tryd.prog 136 = some true := by kernel_rfl
@[go_sem] theorem Tryd.afield136_0 : aField Tryd.prog 136 0 = some (0, 1) := by kernel_rfl
@[go_sem] theorem Tryd.afield136_1 : aField Tryd.prog 136 1 = some (1, 1) := by kernel_rfl
@[go_sem] theorem Tryd.afield136_2 : aField Tryd.prog 136 2 = some (2, 1) := by kernel_rfl
@[go_sem] theorem Tryd.afield136_3 : aField Tryd.prog 136 3 = some (3, 1) := by kernel_rfl
@[go_sem] theorem Tryd.afield136_4 : aField Tryd.prog 136 4 = some (4, 1) := by kernel_rfl
@[go_sem] theorem Tryd.afield136_5 : aField Tryd.prog 136 5 = some (5, 1) := by kernel_rfl
@[go_sem] theorem Tryd.afield136_6 : aField Tryd.prog 136 6 = some (6, 1) := by kernel_rfl
@[go_sem] theorem Tryd.afield136_7 : aField Tryd.prog 136 7 = some (7, 1) := by kernel_rfl
@[go_sem] theorem Tryd.afield136_8 : aField Tryd.prog 136 8 = some (8, 1) := by kernel_rfl
@[go_sem] theorem Tryd.afield136_9 : aField Tryd.prog 136 9 = some (9, 1) := by kernel_rfl
@[go_sem] theorem Tryd.afield136_10 : aField Tryd.prog 136 10 = some (10, 1) := by kernel_rfl
@[go_sem] theorem Tryd.afieldsok136 : aFieldsOk Tryd.prog 136 = true := by kernel_rfl
@[go_sem] theorem Tryd.azero136 : aZero Tryd.prog 136 = some [.sc (.int .u64 (0)), .sc (.int .u64 (0)), .sc (.int .u32 (0)), .sc (.int .u8 (0)), .sc (.int .u8 (0)), .sc (.int .u8 (0)), .sc (.int .u8 (0)), .sc .nilFunc, .sc (.pointer none), .sc (.int .i32 (0)), .sc (.int .i32 (0))] := by kernel_rfl
@[go_sem] theorem Tryd.asize137 : aSize Tryd.prog 137 = some 1 := by kernel_rfl
@[go_sem] theorem Tryd.abytes137 : aBytes Tryd.prog 137 = some 8 := by kernel_rfl
@[go_sem] theorem Tryd.aagg137 : aAgg Tryd.prog 137 = some false := by kernel_rfl
@[go_sem] theorem Tryd.azero137 : aZero Tryd.prog 137 = some [.sc (.pointer none)] := by kernel_rfl
@[go_sem] theorem Tryd.abody2 : aBody Tryd.prog 2 = true := by kernel_rfl
@[go_sem] theorem Tryd.abody3 : aBody Tryd.prog 3 = true := by kernel_rfl
@[go_sem] theorem Tryd.abody4 : aBody Tryd.prog 4 = true := by kernel_rfl
@[go_sem] theorem Tryd.abody5 : aBody Tryd.prog 5 = true := by kernel_rfl
@[go_sem] theorem Tryd.abody6 : aBody Tryd.prog 6 = true := by kernel_rfl
@[go_sem] theorem Tryd.abody7 : aBody Tryd.prog 7 = true := by kernel_rfl
@[go_sem] theorem Tryd.abody8 : aBody Tryd.prog 8 = true := by kernel_rfl
@[go_sem] theorem Tryd.abody9 : aBody Tryd.prog 9 = true := by kernel_rfl
@[go_sem] theorem Tryd.abody10 : aBody Tryd.prog 10 = true := by kernel_rfl
@[go_sem] theorem Tryd.abody11 : aBody Tryd.prog 11 = true := by kernel_rfl
@[go_sem] theorem Tryd.abody12 : aBody Tryd.prog 12 = true := by kernel_rfl
@[go_sem] theorem Tryd.abody13 : aBody Tryd.prog 13 = true := by kernel_rfl
@[go_sem] theorem Tryd.abody14 : aBody Tryd.prog 14 = true := by kernel_rfl
@[go_sem] theorem Tryd.abody15 : aBody Tryd.prog 15 = true := by kernel_rfl
@[go_sem] theorem Tryd.abody16 : aBody Tryd.prog 16 = true := by kernel_rfl
@[go_sem] theorem Tryd.abody17 : aBody Tryd.prog 17 = true := by kernel_rfl
@[go_sem] theorem Tryd.abody18 : aBody Tryd.prog 18 = true := by kernel_rfl
@[go_sem] theorem Tryd.abody19 : aBody Tryd.prog 19 = true := by kernel_rfl
@[go_sem] theorem Tryd.abody20 : aBody Tryd.prog 20 = true := by kernel_rfl
@[go_sem] theorem Tryd.abody21 : aBody Tryd.prog 21 = true := by kernel_rfl
@[go_sem] theorem Tryd.abody22 : aBody Tryd.prog 22 = true := by kernel_rfl
@[go_sem] theorem Tryd.abody23 : aBody Tryd.prog 23 = true := by kernel_rfl
@[go_sem] theorem Tryd.abody24 : aBody Tryd.prog 24 = true := by kernel_rfl
@[go_sem] theorem Tryd.abody25 : aBody Tryd.prog 25 = true := by kernel_rfl
@[go_sem] theorem Tryd.abody26 : aBody Tryd.prog 26 = true := by kernel_rfl
@[go_sem] theorem Tryd.abody27 : aBody Tryd.prog 27 = true := by kernel_rfl
@[go_sem] theorem Tryd.abody28 : aBody Tryd.prog 28 = true := by kernel_rfl
@[go_sem] theorem Tryd.abody29 : aBody Tryd.prog 29 = true := by kernel_rfl
@[go_sem] theorem Tryd.abody30 : aBody Tryd.prog 30 = true := by kernel_rfl
@[go_sem] theorem Tryd.abody31 : aBody Tryd.prog 31 = true := by kernel_rfl
@[go_sem] theorem Tryd.abody32 : aBody Tryd.prog 32 = true := by kernel_rfl
@[go_sem] theorem Tryd.abody33 : aBody Tryd.prog 33 = true := by kernel_rfl
@[go_sem] theorem Tryd.abody34 : aBody Tryd.prog 34 = true := by kernel_rfl
@[go_sem] theorem Tryd.abody35 : aBody Tryd.prog 35 = true := by kernel_rfl
@[go_sem] theorem Tryd.abody36 : aBody Tryd.prog 36 = true := by kernel_rfl
@[go_sem] theorem Tryd.abody37 : aBody Tryd.prog 37 = true := by kernel_rfl
@[go_sem] theorem Tryd.abody38 : aBody Tryd.prog 38 = true := by kernel_rfl
@[go_sem] theorem Tryd.abody39 : aBody Tryd.prog 39 = true := by kernel_rfl
@[go_sem] theorem Tryd.abody40 : aBody Tryd.prog 40 = true := by kernel_rfl
@[go_sem] theorem Tryd.abody41 : aBody Tryd.prog 41 = true := by kernel_rfl
@[go_sem] theorem Tryd.abody42 : aBody Tryd.prog 42 = true := by kernel_rfl
@[go_sem] theorem Tryd.abody43 : aBody Tryd.prog 43 = true := by kernel_rfl
@[go_sem] theorem Tryd.abody44 : aBody Tryd.prog 44 = true := by kernel_rfl
@[go_sem] theorem Tryd.abody45 : aBody Tryd.prog 45 = true := by kernel_rfl
@[go_sem] theorem Tryd.abody46 : aBody Tryd.prog 46 = true := by kernel_rfl
@[go_sem] theorem Tryd.abody47 : aBody Tryd.prog 47 = true := by kernel_rfl
@[go_sem] theorem Tryd.abody48 : aBody Tryd.prog 48 = true := by kernel_rfl
@[go_sem] theorem Tryd.abody49 : aBody Tryd.prog 49 = true := by kernel_rfl
@[go_sem] theorem Tryd.abody50 : aBody Tryd.prog 50 = true := by kernel_rfl
@[go_sem] theorem Tryd.abody51 : aBody Tryd.prog 51 = true := by kernel_rfl
@[go_sem] theorem Tryd.abody52 : aBody Tryd.prog 52 = true := by kernel_rfl
@[go_sem] theorem Tryd.abody53 : aBody Tryd.prog 53 = true := by kernel_rfl
@[go_sem] theorem Tryd.abody54 : aBody Tryd.prog 54 = true := by kernel_rfl
@[go_sem] theorem Tryd.abody55 : aBody Tryd.prog 55 = true := by kernel_rfl
@[go_sem] theorem Tryd.abody56 : aBody Tryd.prog 56 = true := by kernel_rfl
@[go_sem] theorem Tryd.abody57 : aBody Tryd.prog 57 = true := by kernel_rfl
@[go_sem] theorem Tryd.abody58 : aBody Tryd.prog 58 = true := by kernel_rfl
@[go_sem] theorem Tryd.abody59 : aBody Tryd.prog 59 = true := by kernel_rfl
@[go_sem] theorem Tryd.abody60 : aBody Tryd.prog 60 = true := by kernel_rfl
@[go_sem] theorem Tryd.abody61 : aBody Tryd.prog 61 = true := by kernel_rfl
@[go_sem] theorem Tryd.abody62 : aBody Tryd.prog 62 = true := by kernel_rfl
@[go_sem] theorem Tryd.abody63 : aBody Tryd.prog 63 = true := by kernel_rfl
@[go_sem] theorem Tryd.abody64 : aBody Tryd.prog 64 = true := by kernel_rfl
@[go_sem] theorem Tryd.abody65 : aBody Tryd.prog 65 = true := by kernel_rfl
@[go_sem] theorem Tryd.abody66 : aBody Tryd.prog 66 = true := by kernel_rfl
@[go_sem] theorem Tryd.abody67 : aBody Tryd.prog 67 = true := by kernel_rfl
@[go_sem] theorem Tryd.abody68 : aBody Tryd.prog 68 = true := by kernel_rfl
@[go_sem] theorem Tryd.abody69 : aBody Tryd.prog 69 = true := by kernel_rfl
@[go_sem] theorem Tryd.abody70 : aBody Tryd.prog 70 = true := by kernel_rfl
@[go_sem] theorem Tryd.abody71 : aBody Tryd.prog 71 = true := by kernel_rfl
@[go_sem] theorem Tryd.abody72 : aBody Tryd.prog 72 = true := by kernel_rfl
@[go_sem] theorem Tryd.abody73 : aBody Tryd.prog 73 = true := by kernel_rfl
@[go_sem] theorem Tryd.abody74 : aBody Tryd.prog 74 = true := by kernel_rfl
@[go_sem] theorem Tryd.abody75 : aBody Tryd.prog 75 = true := by kernel_rfl
@[go_sem] theorem Tryd.abody76 : aBody Tryd.prog 76 = true := by kernel_rfl
@[go_sem] theorem Tryd.abody77 : aBody Tryd.prog 77 = true := by kernel_rfl
@[go_sem] theorem Tryd.abody79 : aBody Tryd.prog 79 = true := by kernel_rfl
@[go_sem] theorem Tryd.abody80 : aBody Tryd.prog 80 = true := by kernel_rfl
@[go_sem] theorem Tryd.abody81 : aBody Tryd.prog 81 = true := by kernel_rfl
@[go_sem] theorem Tryd.abody82 : aBody Tryd.prog 82 = true := by kernel_rfl
@[go_sem] theorem Tryd.abody83 : aBody Tryd.prog 83 = true := by kernel_rfl
@[go_sem] theorem Tryd.abody84 : aBody Tryd.prog 84 = true := by kernel_rfl
@[go_sem] theorem Tryd.abody85 : aBody Tryd.prog 85 = true := by kernel_rfl
@[go_sem] theorem Tryd.abody86 : aBody Tryd.prog 86 = true := by kernel_rfl
@[go_sem] theorem Tryd.abody87 : aBody Tryd.prog 87 = true := by kernel_rfl
@[go_sem] theorem Tryd.abody88 : aBody Tryd.prog 88 = true := by kernel_rfl
@[go_sem] theorem Tryd.abody89 : aBody Tryd.prog 89 = true := by kernel_rfl
@[go_sem] theorem Tryd.abody90 : aBody Tryd.prog 90 = true := by kernel_rfl
@[go_sem] theorem Tryd.abody91 : aBody Tryd.prog 91 = true := by kernel_rfl
@[go_sem] theorem Tryd.abody92 : aBody Tryd.prog 92 = true := by kernel_rfl
@[go_sem] theorem Tryd.abody93 : aBody Tryd.prog 93 = true := by kernel_rfl
@[go_sem] theorem Tryd.abody94 : aBody Tryd.prog 94 = true := by kernel_rfl
@[go_sem] theorem Tryd.abody95 : aBody Tryd.prog 95 = true := by kernel_rfl
@[go_sem] theorem Tryd.abody96 : aBody Tryd.prog 96 = true := by kernel_rfl
@[go_sem] theorem Tryd.abody97 : aBody Tryd.prog 97 = true := by kernel_rfl
@[go_sem] theorem Tryd.abody98 : aBody Tryd.prog 98 = true := by kernel_rfl
@[go_sem] theorem Tryd.abody99 : aBody Tryd.prog 99 = true := by kernel_rfl
@[go_sem] theorem Tryd.abody100 : aBody Tryd.prog 100 = true := by kernel_rfl
@[go_sem] theorem Tryd.abody101 : aBody Tryd.prog 101 = true := by kernel_rfl
@[go_sem] theorem Tryd.abody102 : aBody Tryd.prog 102 = true := by kernel_rfl
@[go_sem] theorem Tryd.abody103 : aBody Tryd.prog 103 = true := by kernel_rfl
@[go_sem] theorem Tryd.abody104 : aBody Tryd.prog 104 = true := by kernel_rfl
@[go_sem] theorem Tryd.abody106 : aBody Tryd.prog 106 = true := by kernel_rfl
@[go_sem] theorem Tryd.abody107 : aBody Tryd.prog 107 = true := by kernel_rfl
@[go_sem] theorem Tryd.abody108 : aBody Tryd.prog 108 = true := by kernel_rfl
@[go_sem] theorem Tryd.abody109 : aBody Tryd.prog 109 = true := by kernel_rfl
@[go_sem] theorem Tryd.abody131 : aBody Tryd.prog 131 = true := by kernel_rfl
@[go_sem] theorem Tryd.mixed : Tryd.prog.follows .mixedOrders = true := by kernel_rfl
end Go.Proofs
