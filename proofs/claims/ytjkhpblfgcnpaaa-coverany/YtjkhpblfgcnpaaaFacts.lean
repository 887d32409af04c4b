/- The facts on the types of this seat's program that the walks ask: printed by facts.sh, each reckoned by the kernel. -/
import Derived.Test.YtjkhpblfgcnpaaaProg
import Derived.Test.YtjkhpblfgcnpaaaA3
import Derived.KernelRfl
namespace Go.Proofs
open Go Go.AL
@[go_sem] theorem Try.asize0 : aSize Try.prog 0 = some 1 := by kernel_rfl
@[go_sem] theorem Try.abytes0 : aBytes Try.prog 0 = some 0 := by kernel_rfl
@[go_sem] theorem Try.aagg0 : aAgg Try.prog 0 = some false := by kernel_rfl
@[go_sem] theorem Try.asize1 : aSize Try.prog 1 = some 1 := by kernel_rfl
@[go_sem] theorem Try.abytes1 : aBytes Try.prog 1 = some 8 := by kernel_rfl
@[go_sem] theorem Try.aagg1 : aAgg Try.prog 1 = some false := by kernel_rfl
@[go_sem] theorem Try.azero1 : aZero Try.prog 1 = some [.sc .nilFunc] := by kernel_rfl
@[go_sem] theorem Try.asize2 : aSize Try.prog 2 = some 1 := by kernel_rfl
@[go_sem] theorem Try.abytes2 : aBytes Try.prog 2 = some 8 := by kernel_rfl
@[go_sem] theorem Try.aagg2 : aAgg Try.prog 2 = some false := by kernel_rfl
@[go_sem] theorem Try.azero2 : aZero Try.prog 2 = some [.sc (.int .i64 (0))] := by kernel_rfl
@[go_sem] theorem Try.asize3 : aSize Try.prog 3 = some 1 := by kernel_rfl
@[go_sem] theorem Try.abytes3 : aBytes Try.prog 3 = some 8 := by kernel_rfl
@[go_sem] theorem Try.aagg3 : aAgg Try.prog 3 = some false := by kernel_rfl
@[go_sem] theorem Try.azero3 : aZero Try.prog 3 = some [.sc (.int .i64 (0))] := by kernel_rfl
@[go_sem] theorem Try.asize4 : aSize Try.prog 4 = some 1 := by kernel_rfl
@[go_sem] theorem Try.abytes4 : aBytes Try.prog 4 = some 1 := by kernel_rfl
@[go_sem] theorem Try.aagg4 : aAgg Try.prog 4 = some false := by kernel_rfl
@[go_sem] theorem Try.aund4 : Try.prog.underlying 4 = some .bool := by kernel_rfl
@[go_sem] theorem Try.azero4 : aZero Try.prog 4 = some [.sc (.bool false)] := by kernel_rfl
@[go_sem] theorem Try.asize5 : aSize Try.prog 5 = some 1 := by kernel_rfl
@[go_sem] theorem Try.abytes5 : aBytes Try.prog 5 = some 1 := by kernel_rfl
@[go_sem] theorem Try.aagg5 : aAgg Try.prog 5 = some false := by kernel_rfl
@[go_sem] theorem Try.azero5 : aZero Try.prog 5 = some [.sc (.int .u8 (0))] := by kernel_rfl
@[go_sem] theorem Try.asize6 : aSize Try.prog 6 = some 1 := by kernel_rfl
@[go_sem] theorem Try.abytes6 : aBytes Try.prog 6 = some 1 := by kernel_rfl
@[go_sem] theorem Try.aagg6 : aAgg Try.prog 6 = some false := by kernel_rfl
@[go_sem] theorem Try.azero6 : aZero Try.prog 6 = some [.sc (.int .u8 (0))] := by kernel_rfl
@[go_sem] theorem Try.asize7 : aSize Try.prog 7 = some 4 := by kernel_rfl
@[go_sem] theorem Try.abytes7 : aBytes Try.prog 7 = some 24 := by kernel_rfl
@[go_sem] theorem Try.aagg7 : aAgg Try.prog 7 = some true := by kernel_rfl
@[go_sem] theorem Try.afield7_0 : aField Try.prog 7 0 = some (0, 1) := by kernel_rfl
@[go_sem] theorem Try.afield7_1 : aField Try.prog 7 1 = some (1, 1) := by kernel_rfl
@[go_sem] theorem Try.afield7_2 : aField Try.prog 7 2 = some (2, 1) := by kernel_rfl
@[go_sem] theorem Try.afield7_3 : aField Try.prog 7 3 = some (3, 1) := by kernel_rfl
@[go_sem] theorem Try.afieldsok7 : aFieldsOk Try.prog 7 = true := by kernel_rfl
@[go_sem] theorem Try.azero7 : aZero Try.prog 7 = some [.sc (.int .i64 (0)), .sc (.int .i64 (0)), .sc (.bool false), .sc (.int .u8 (0))] := by kernel_rfl
@[go_sem] theorem Try.asize8 : aSize Try.prog 8 = some 4 := by kernel_rfl
@[go_sem] theorem Try.abytes8 : aBytes Try.prog 8 = some 24 := by kernel_rfl
@[go_sem] theorem Try.aagg8 : aAgg Try.prog 8 = some true := by kernel_rfl
@[go_sem] theorem Try.afield8_0 : aField Try.prog 8 0 = some (0, 1) := by kernel_rfl
@[go_sem] theorem Try.afield8_1 : aField Try.prog 8 1 = some (1, 1) := by kernel_rfl
@[go_sem] theorem Try.afield8_2 : aField Try.prog 8 2 = some (2, 1) := by kernel_rfl
@[go_sem] theorem Try.afield8_3 : aField Try.prog 8 3 = some (3, 1) := by kernel_rfl
@[go_sem] theorem Try.afieldsok8 : aFieldsOk Try.prog 8 = true := by kernel_rfl
@[go_sem] theorem Try.azero8 : aZero Try.prog 8 = some [.sc (.int .i64 (0)), .sc (.int .i64 (0)), .sc (.bool false), .sc (.int .u8 (0))] := by kernel_rfl
@[go_sem] theorem Try.asize9 : aSize Try.prog 9 = some 1 := by kernel_rfl
@[go_sem] theorem Try.abytes9 : aBytes Try.prog 9 = some 16 := by kernel_rfl
@[go_sem] theorem Try.aagg9 : aAgg Try.prog 9 = some false := by kernel_rfl
@[go_sem] theorem Try.aund9 : Try.prog.underlying 9 = some .string := by kernel_rfl
@[go_sem] theorem Try.azero9 : aZero Try.prog 9 = some [.sc (.string ⟨#[]⟩)] := by kernel_rfl
@[go_sem] theorem Try.asize10 : aSize Try.prog 10 = some 1 := by kernel_rfl
@[go_sem] theorem Try.abytes10 : aBytes Try.prog 10 = some 16 := by kernel_rfl
@[go_sem] theorem Try.aagg10 : aAgg Try.prog 10 = some false := by kernel_rfl
@[go_sem] theorem Try.aund10 : Try.prog.underlying 10 = some .string := by kernel_rfl
@[go_sem] theorem Try.azero10 : aZero Try.prog 10 = some [.sc (.string ⟨#[]⟩)] := by kernel_rfl
@[go_sem] theorem Try.asize11 : aSize Try.prog 11 = some 1 := by kernel_rfl
@[go_sem] theorem Try.abytes11 : aBytes Try.prog 11 = some 16 := by kernel_rfl
@[go_sem] theorem Try.aagg11 : aAgg Try.prog 11 = some false := by kernel_rfl
@[go_sem] theorem Try.aund11 : Try.prog.underlying 11 = some .string := by kernel_rfl
@[go_sem] theorem Try.azero11 : aZero Try.prog 11 = some [.sc (.string ⟨#[]⟩)] := by kernel_rfl
@[go_sem] theorem Try.asize12 : aSize Try.prog 12 = some 1 := by kernel_rfl
@[go_sem] theorem Try.abytes12 : aBytes Try.prog 12 = some 8 := by kernel_rfl
@[go_sem] theorem Try.aagg12 : aAgg Try.prog 12 = some false := by kernel_rfl
@[go_sem] theorem Try.azero12 : aZero Try.prog 12 = some [.sc (.int .u64 (0))] := by kernel_rfl
@[go_sem] theorem Try.asize13 : aSize Try.prog 13 = some 2 := by kernel_rfl
@[go_sem] theorem Try.abytes13 : aBytes Try.prog 13 = some 24 := by kernel_rfl
@[go_sem] theorem Try.aagg13 : aAgg Try.prog 13 = some true := by kernel_rfl
@[go_sem] theorem Try.afield13_0 : aField Try.prog 13 0 = some (0, 1) := by kernel_rfl
@[go_sem] theorem Try.afield13_1 : aField Try.prog 13 1 = some (1, 1) := by kernel_rfl
@[go_sem] theorem Try.afieldsok13 : aFieldsOk Try.prog 13 = true := by kernel_rfl
@[go_sem] theorem Try.azero13 : aZero Try.prog 13 = some [.sc (.string ⟨#[]⟩), .sc (.int .u64 (0))] := by kernel_rfl
@[go_sem] theorem Try.asize14 : aSize Try.prog 14 = some 2 := by kernel_rfl
@[go_sem] theorem Try.abytes14 : aBytes Try.prog 14 = some 24 := by kernel_rfl
@[go_sem] theorem Try.aagg14 : aAgg Try.prog 14 = some true := by kernel_rfl
@[go_sem] theorem Try.afield14_0 : aField Try.prog 14 0 = some (0, 1) := by kernel_rfl
@[go_sem] theorem Try.afield14_1 : aField Try.prog 14 1 = some (1, 1) := by kernel_rfl
@[go_sem] theorem Try.afieldsok14 : aFieldsOk Try.prog 14 = true := by kernel_rfl
@[go_sem] theorem Try.azero14 : aZero Try.prog 14 = some [.sc (.string ⟨#[]⟩), .sc (.int .u64 (0))] := by kernel_rfl
@[go_sem] theorem Try.asize15 : aSize Try.prog 15 = some 1 := by kernel_rfl
@[go_sem] theorem Try.abytes15 : aBytes Try.prog 15 = some 8 := by kernel_rfl
@[go_sem] theorem Try.aagg15 : aAgg Try.prog 15 = some false := by kernel_rfl
@[go_sem] theorem Try.azero15 : aZero Try.prog 15 = some [.sc (.pointer none)] := by kernel_rfl
@[go_sem] theorem Try.asize16 : aSize Try.prog 16 = some 1 := by kernel_rfl
@[go_sem] theorem Try.abytes16 : aBytes Try.prog 16 = some 8 := by kernel_rfl
@[go_sem] theorem Try.aagg16 : aAgg Try.prog 16 = some false := by kernel_rfl
@[go_sem] theorem Try.azero16 : aZero Try.prog 16 = some [.sc (.pointer none)] := by kernel_rfl
@[go_sem] theorem Try.asize17 : aSize Try.prog 17 = some 1 := by kernel_rfl
@[go_sem] theorem Try.abytes17 : aBytes Try.prog 17 = some 8 := by kernel_rfl
@[go_sem] theorem Try.aagg17 : aAgg Try.prog 17 = some false := by kernel_rfl
@[go_sem] theorem Try.azero17 : aZero Try.prog 17 = some [.sc (.pointer none)] := by kernel_rfl
@[go_sem] theorem Try.asize18 : aSize Try.prog 18 = some 1 := by kernel_rfl
@[go_sem] theorem Try.abytes18 : aBytes Try.prog 18 = some 8 := by kernel_rfl
@[go_sem] theorem Try.aagg18 : aAgg Try.prog 18 = some true := by kernel_rfl
@[go_sem] theorem Try.afield18_0 : aField Try.prog 18 0 = some (0, 1) := by kernel_rfl
@[go_sem] theorem Try.afieldsok18 : aFieldsOk Try.prog 18 = true := by kernel_rfl
@[go_sem] theorem Try.azero18 : aZero Try.prog 18 = some [.sc (.pointer none)] := by kernel_rfl
@[go_sem] theorem Try.asize19 : aSize Try.prog 19 = some 1 := by kernel_rfl
@[go_sem] theorem Try.abytes19 : aBytes Try.prog 19 = some 8 := by kernel_rfl
@[go_sem] theorem Try.aagg19 : aAgg Try.prog 19 = some true := by kernel_rfl
@[go_sem] theorem Try.afield19_0 : aField Try.prog 19 0 = some (0, 1) := by kernel_rfl
@[go_sem] theorem Try.afieldsok19 : aFieldsOk Try.prog 19 = true := by kernel_rfl
@[go_sem] theorem Try.azero19 : aZero Try.prog 19 = some [.sc (.pointer none)] := by kernel_rfl
@[go_sem] theorem Try.asize20 : aSize Try.prog 20 = some 1 := by kernel_rfl
@[go_sem] theorem Try.abytes20 : aBytes Try.prog 20 = some 16 := by kernel_rfl
@[go_sem] theorem Try.aagg20 : aAgg Try.prog 20 = some false := by kernel_rfl
@[go_sem] theorem Try.azero20 : aZero Try.prog 20 = some [.sc .nilIface] := by kernel_rfl
@[go_sem] theorem Try.asize21 : aSize Try.prog 21 = some 1 := by kernel_rfl
@[go_sem] theorem Try.abytes21 : aBytes Try.prog 21 = some 4 := by kernel_rfl
@[go_sem] theorem Try.aagg21 : aAgg Try.prog 21 = some false := by kernel_rfl
@[go_sem] theorem Try.azero21 : aZero Try.prog 21 = some [.sc (.int .i32 (0))] := by kernel_rfl
@[go_sem] theorem Try.asize22 : aSize Try.prog 22 = some 1 := by kernel_rfl
@[go_sem] theorem Try.abytes22 : aBytes Try.prog 22 = some 24 := by kernel_rfl
@[go_sem] theorem Try.aagg22 : aAgg Try.prog 22 = some false := by kernel_rfl
@[go_sem] theorem Try.aelem22 : aElem Try.prog 22 = some 25 := by kernel_rfl
@[go_sem] theorem Try.azero22 : aZero Try.prog 22 = some [.slice .full 0 []] := by kernel_rfl
@[go_sem] theorem Try.asize23 : aSize Try.prog 23 = some 1 := by kernel_rfl
@[go_sem] theorem Try.abytes23 : aBytes Try.prog 23 = some 24 := by kernel_rfl
@[go_sem] theorem Try.aagg23 : aAgg Try.prog 23 = some false := by kernel_rfl
@[go_sem] theorem Try.aelem23 : aElem Try.prog 23 = some 9 := by kernel_rfl
@[go_sem] theorem Try.azero23 : aZero Try.prog 23 = some [.slice .full 0 []] := by kernel_rfl
@[go_sem] theorem Try.asize24 : aSize Try.prog 24 = some 6 := by kernel_rfl
@[go_sem] theorem Try.abytes24 : aBytes Try.prog 24 = some 88 := by kernel_rfl
@[go_sem] theorem Try.aagg24 : aAgg Try.prog 24 = some true := by kernel_rfl
@[go_sem] theorem Try.afield24_0 : aField Try.prog 24 0 = some (0, 1) := by kernel_rfl
@[go_sem] theorem Try.afield24_1 : aField Try.prog 24 1 = some (1, 1) := by kernel_rfl
@[go_sem] theorem Try.afield24_2 : aField Try.prog 24 2 = some (2, 1) := by kernel_rfl
@[go_sem] theorem Try.afield24_3 : aField Try.prog 24 3 = some (3, 1) := by kernel_rfl
@[go_sem] theorem Try.afield24_4 : aField Try.prog 24 4 = some (4, 1) := by kernel_rfl
@[go_sem] theorem Try.afield24_5 : aField Try.prog 24 5 = some (5, 1) := by kernel_rfl
@[go_sem] theorem Try.afieldsok24 : aFieldsOk Try.prog 24 = true := by kernel_rfl
@[go_sem] theorem Try.azero24 : aZero Try.prog 24 = some [.sc (.int .i64 (0)), .sc (.string ⟨#[]⟩), .sc (.int .i64 (0)), .sc (.int .i64 (0)), .slice .full 0 [], .slice .full 0 []] := by kernel_rfl
@[go_sem] theorem Try.asize25 : aSize Try.prog 25 = some 6 := by kernel_rfl
@[go_sem] theorem Try.abytes25 : aBytes Try.prog 25 = some 88 := by kernel_rfl
@[go_sem] theorem Try.aagg25 : aAgg Try.prog 25 = some true := by kernel_rfl
@[go_sem] theorem Try.afield25_0 : aField Try.prog 25 0 = some (0, 1) := by kernel_rfl
@[go_sem] theorem Try.afield25_1 : aField Try.prog 25 1 = some (1, 1) := by kernel_rfl
@[go_sem] theorem Try.afield25_2 : aField Try.prog 25 2 = some (2, 1) := by kernel_rfl
@[go_sem] theorem Try.afield25_3 : aField Try.prog 25 3 = some (3, 1) := by kernel_rfl
@[go_sem] theorem Try.afield25_4 : aField Try.prog 25 4 = some (4, 1) := by kernel_rfl
@[go_sem] theorem Try.afield25_5 : aField Try.prog 25 5 = some (5, 1) := by kernel_rfl
@[go_sem] theorem Try.afieldsok25 : aFieldsOk Try.prog 25 = true := by kernel_rfl
@[go_sem] theorem Try.azero25 : aZero Try.prog 25 = some [.sc (.int .i64 (0)), .sc (.string ⟨#[]⟩), .sc (.int .i64 (0)), .sc (.int .i64 (0)), .slice .full 0 [], .slice .full 0 []] := by kernel_rfl
@[go_sem] theorem Try.asize26 : aSize Try.prog 26 = some 1 := by kernel_rfl
@[go_sem] theorem Try.abytes26 : aBytes Try.prog 26 = some 8 := by kernel_rfl
@[go_sem] theorem Try.aagg26 : aAgg Try.prog 26 = some false := by kernel_rfl
@[go_sem] theorem Try.azero26 : aZero Try.prog 26 = some [.sc (.int .i64 (0))] := by kernel_rfl
@[go_sem] theorem Try.asize27 : aSize Try.prog 27 = some 1 := by kernel_rfl
@[go_sem] theorem Try.abytes27 : aBytes Try.prog 27 = some 0 := by kernel_rfl
@[go_sem] theorem Try.aagg27 : aAgg Try.prog 27 = some false := by kernel_rfl
@[go_sem] theorem Try.asize28 : aSize Try.prog 28 = some 1 := by kernel_rfl
@[go_sem] theorem Try.abytes28 : aBytes Try.prog 28 = some 8 := by kernel_rfl
@[go_sem] theorem Try.aagg28 : aAgg Try.prog 28 = some false := by kernel_rfl
@[go_sem] theorem Try.azero28 : aZero Try.prog 28 = some [.sc .nilFunc] := by kernel_rfl
@[go_sem] theorem Try.asize29 : aSize Try.prog 29 = some 1 := by kernel_rfl
@[go_sem] theorem Try.abytes29 : aBytes Try.prog 29 = some 8 := by kernel_rfl
@[go_sem] theorem Try.aagg29 : aAgg Try.prog 29 = some false := by kernel_rfl
@[go_sem] theorem Try.azero29 : aZero Try.prog 29 = some [.sc .nilFunc] := by kernel_rfl
@[go_sem] theorem Try.asize30 : aSize Try.prog 30 = some 1 := by kernel_rfl
@[go_sem] theorem Try.abytes30 : aBytes Try.prog 30 = some 8 := by kernel_rfl
@[go_sem] theorem Try.aagg30 : aAgg Try.prog 30 = some false := by kernel_rfl
@[go_sem] theorem Try.azero30 : aZero Try.prog 30 = some [.sc .nilFunc] := by kernel_rfl
@[go_sem] theorem Try.asize31 : aSize Try.prog 31 = some 1 := by kernel_rfl
@[go_sem] theorem Try.abytes31 : aBytes Try.prog 31 = some 8 := by kernel_rfl
@[go_sem] theorem Try.aagg31 : aAgg Try.prog 31 = some false := by kernel_rfl
@[go_sem] theorem Try.azero31 : aZero Try.prog 31 = some [.sc .nilFunc] := by kernel_rfl
@[go_sem] theorem Try.asize32 : aSize Try.prog 32 = some 1 := by kernel_rfl
@[go_sem] theorem Try.abytes32 : aBytes Try.prog 32 = some 8 := by kernel_rfl
@[go_sem] theorem Try.aagg32 : aAgg Try.prog 32 = some false := by kernel_rfl
@[go_sem] theorem Try.azero32 : aZero Try.prog 32 = some [.sc .nilFunc] := by kernel_rfl
@[go_sem] theorem Try.asize33 : aSize Try.prog 33 = some 1 := by kernel_rfl
@[go_sem] theorem Try.abytes33 : aBytes Try.prog 33 = some 24 := by kernel_rfl
@[go_sem] theorem Try.aagg33 : aAgg Try.prog 33 = some false := by kernel_rfl
@[go_sem] theorem Try.aelem33 : aElem Try.prog 33 = some 47 := by kernel_rfl
@[go_sem] theorem Try.azero33 : aZero Try.prog 33 = some [.slice .full 0 []] := by kernel_rfl
@[go_sem] theorem Try.asize34 : aSize Try.prog 34 = some 1 := by kernel_rfl
@[go_sem] theorem Try.abytes34 : aBytes Try.prog 34 = some 8 := by kernel_rfl
@[go_sem] theorem Try.aagg34 : aAgg Try.prog 34 = some false := by kernel_rfl
@[go_sem] theorem Try.azero34 : aZero Try.prog 34 = some [.sc .nilFunc] := by kernel_rfl
@[go_sem] theorem Try.asize35 : aSize Try.prog 35 = some 1 := by kernel_rfl
@[go_sem] theorem Try.abytes35 : aBytes Try.prog 35 = some 8 := by kernel_rfl
@[go_sem] theorem Try.aagg35 : aAgg Try.prog 35 = some false := by kernel_rfl
@[go_sem] theorem Try.azero35 : aZero Try.prog 35 = some [.sc .nilFunc] := by kernel_rfl
@[go_sem] theorem Try.asize36 : aSize Try.prog 36 = some 1 := by kernel_rfl
@[go_sem] theorem Try.abytes36 : aBytes Try.prog 36 = some 24 := by kernel_rfl
@[go_sem] theorem Try.aagg36 : aAgg Try.prog 36 = some false := by kernel_rfl
@[go_sem] theorem Try.aelem36 : aElem Try.prog 36 = some 47 := by kernel_rfl
@[go_sem] theorem Try.azero36 : aZero Try.prog 36 = some [.slice .full 0 []] := by kernel_rfl
@[go_sem] theorem Try.asize37 : aSize Try.prog 37 = some 1 := by kernel_rfl
@[go_sem] theorem Try.abytes37 : aBytes Try.prog 37 = some 24 := by kernel_rfl
@[go_sem] theorem Try.aagg37 : aAgg Try.prog 37 = some false := by kernel_rfl
@[go_sem] theorem Try.aelem37 : aElem Try.prog 37 = some 22 := by kernel_rfl
@[go_sem] theorem Try.azero37 : aZero Try.prog 37 = some [.slice .full 0 []] := by kernel_rfl
@[go_sem] theorem Try.asize38 : aSize Try.prog 38 = some 1 := by kernel_rfl
@[go_sem] theorem Try.abytes38 : aBytes Try.prog 38 = some 0 := by kernel_rfl
@[go_sem] theorem Try.aagg38 : aAgg Try.prog 38 = some false := by kernel_rfl
@[go_sem] theorem Try.asize39 : aSize Try.prog 39 = some 1 := by kernel_rfl
@[go_sem] theorem Try.abytes39 : aBytes Try.prog 39 = some 8 := by kernel_rfl
@[go_sem] theorem Try.aagg39 : aAgg Try.prog 39 = some false := by kernel_rfl
@[go_sem] theorem Try.azero39 : aZero Try.prog 39 = some [.sc .nilFunc] := by kernel_rfl
@[go_sem] theorem Try.asize40 : aSize Try.prog 40 = some 1 := by kernel_rfl
@[go_sem] theorem Try.abytes40 : aBytes Try.prog 40 = some 8 := by kernel_rfl
@[go_sem] theorem Try.aagg40 : aAgg Try.prog 40 = some false := by kernel_rfl
@[go_sem] theorem Try.azero40 : aZero Try.prog 40 = some [.sc .nilFunc] := by kernel_rfl
@[go_sem] theorem Try.asize41 : aSize Try.prog 41 = some 1 := by kernel_rfl
@[go_sem] theorem Try.abytes41 : aBytes Try.prog 41 = some 8 := by kernel_rfl
@[go_sem] theorem Try.aagg41 : aAgg Try.prog 41 = some false := by kernel_rfl
@[go_sem] theorem Try.azero41 : aZero Try.prog 41 = some [.sc .nilFunc] := by kernel_rfl
@[go_sem] theorem Try.asize42 : aSize Try.prog 42 = some 1 := by kernel_rfl
@[go_sem] theorem Try.abytes42 : aBytes Try.prog 42 = some 8 := by kernel_rfl
@[go_sem] theorem Try.aagg42 : aAgg Try.prog 42 = some false := by kernel_rfl
@[go_sem] theorem Try.azero42 : aZero Try.prog 42 = some [.sc .nilFunc] := by kernel_rfl
@[go_sem] theorem Try.asize43 : aSize Try.prog 43 = some 1 := by kernel_rfl
@[go_sem] theorem Try.abytes43 : aBytes Try.prog 43 = some 8 := by kernel_rfl
@[go_sem] theorem Try.aagg43 : aAgg Try.prog 43 = some false := by kernel_rfl
@[go_sem] theorem Try.azero43 : aZero Try.prog 43 = some [.sc .nilFunc] := by kernel_rfl
@[go_sem] theorem Try.asize44 : aSize Try.prog 44 = some 1 := by kernel_rfl
@[go_sem] theorem Try.abytes44 : aBytes Try.prog 44 = some 8 := by kernel_rfl
@[go_sem] theorem Try.aagg44 : aAgg Try.prog 44 = some false := by kernel_rfl
@[go_sem] theorem Try.azero44 : aZero Try.prog 44 = some [.sc .nilFunc] := by kernel_rfl
@[go_sem] theorem Try.asize45 : aSize Try.prog 45 = some 1 := by kernel_rfl
@[go_sem] theorem Try.abytes45 : aBytes Try.prog 45 = some 8 := by kernel_rfl
@[go_sem] theorem Try.aagg45 : aAgg Try.prog 45 = some false := by kernel_rfl
@[go_sem] theorem Try.azero45 : aZero Try.prog 45 = some [.sc .nilFunc] := by kernel_rfl
@[go_sem] theorem Try.asize46 : aSize Try.prog 46 = some 5 := by kernel_rfl
@[go_sem] theorem Try.abytes46 : aBytes Try.prog 46 = some 56 := by kernel_rfl
@[go_sem] theorem Try.aagg46 : aAgg Try.prog 46 = some true := by kernel_rfl
@[go_sem] theorem Try.afield46_0 : aField Try.prog 46 0 = some (0, 1) := by kernel_rfl
@[go_sem] theorem Try.afield46_1 : aField Try.prog 46 1 = some (1, 1) := by kernel_rfl
@[go_sem] theorem Try.afield46_2 : aField Try.prog 46 2 = some (2, 1) := by kernel_rfl
@[go_sem] theorem Try.afield46_3 : aField Try.prog 46 3 = some (3, 1) := by kernel_rfl
@[go_sem] theorem Try.afield46_4 : aField Try.prog 46 4 = some (4, 1) := by kernel_rfl
@[go_sem] theorem Try.afieldsok46 : aFieldsOk Try.prog 46 = true := by kernel_rfl
@[go_sem] theorem Try.azero46 : aZero Try.prog 46 = some [.sc (.string ⟨#[]⟩), .sc (.string ⟨#[]⟩), .sc (.int .i64 (0)), .sc (.int .i64 (0)), .sc (.int .i64 (0))] := by kernel_rfl
@[go_sem] theorem Try.asize47 : aSize Try.prog 47 = some 5 := by kernel_rfl
@[go_sem] theorem Try.abytes47 : aBytes Try.prog 47 = some 56 := by kernel_rfl
@[go_sem] theorem Try.aagg47 : aAgg Try.prog 47 = some true := by kernel_rfl
@[go_sem] theorem Try.afield47_0 : aField Try.prog 47 0 = some (0, 1) := by kernel_rfl
@[go_sem] theorem Try.afield47_1 : aField Try.prog 47 1 = some (1, 1) := by kernel_rfl
@[go_sem] theorem Try.afield47_2 : aField Try.prog 47 2 = some (2, 1) := by kernel_rfl
@[go_sem] theorem Try.afield47_3 : aField Try.prog 47 3 = some (3, 1) := by kernel_rfl
@[go_sem] theorem Try.afield47_4 : aField Try.prog 47 4 = some (4, 1) := by kernel_rfl
@[go_sem] theorem Try.afieldsok47 : aFieldsOk Try.prog 47 = true := by kernel_rfl
@[go_sem] theorem Try.azero47 : aZero Try.prog 47 = some [.sc (.string ⟨#[]⟩), .sc (.string ⟨#[]⟩), .sc (.int .i64 (0)), .sc (.int .i64 (0)), .sc (.int .i64 (0))] := by kernel_rfl
@[go_sem] theorem Try.asize48 : aSize Try.prog 48 = some 1 := by kernel_rfl
@[go_sem] theorem Try.abytes48 : aBytes Try.prog 48 = some 8 := by kernel_rfl
@[go_sem] theorem Try.aagg48 : aAgg Try.prog 48 = some false := by kernel_rfl
@[go_sem] theorem Try.azero48 : aZero Try.prog 48 = some [.sc .nilFunc] := by kernel_rfl
@[go_sem] theorem Try.asize49 : aSize Try.prog 49 = some 1 := by kernel_rfl
@[go_sem] theorem Try.abytes49 : aBytes Try.prog 49 = some 8 := by kernel_rfl
@[go_sem] theorem Try.aagg49 : aAgg Try.prog 49 = some false := by kernel_rfl
@[go_sem] theorem Try.azero49 : aZero Try.prog 49 = some [.sc .nilFunc] := by kernel_rfl
@[go_sem] theorem Try.asize50 : aSize Try.prog 50 = some 1 := by kernel_rfl
@[go_sem] theorem Try.abytes50 : aBytes Try.prog 50 = some 8 := by kernel_rfl
@[go_sem] theorem Try.aagg50 : aAgg Try.prog 50 = some false := by kernel_rfl
@[go_sem] theorem Try.azero50 : aZero Try.prog 50 = some [.sc .nilFunc] := by kernel_rfl
@[go_sem] theorem Try.asize51 : aSize Try.prog 51 = some 1 := by kernel_rfl
@[go_sem] theorem Try.abytes51 : aBytes Try.prog 51 = some 8 := by kernel_rfl
@[go_sem] theorem Try.aagg51 : aAgg Try.prog 51 = some false := by kernel_rfl
@[go_sem] theorem Try.azero51 : aZero Try.prog 51 = some [.sc .nilFunc] := by kernel_rfl
@[go_sem] theorem Try.asize52 : aSize Try.prog 52 = some 1 := by kernel_rfl
@[go_sem] theorem Try.abytes52 : aBytes Try.prog 52 = some 0 := by kernel_rfl
@[go_sem] theorem Try.aagg52 : aAgg Try.prog 52 = some false := by kernel_rfl
@[go_sem] theorem Try.asize53 : aSize Try.prog 53 = some 1 := by kernel_rfl
@[go_sem] theorem Try.abytes53 : aBytes Try.prog 53 = some 8 := by kernel_rfl
@[go_sem] theorem Try.aagg53 : aAgg Try.prog 53 = some false := by kernel_rfl
@[go_sem] theorem Try.azero53 : aZero Try.prog 53 = some [.sc .nilFunc] := by kernel_rfl
@[go_sem] theorem Try.asize54 : aSize Try.prog 54 = some 1 := by kernel_rfl
@[go_sem] theorem Try.abytes54 : aBytes Try.prog 54 = some 8 := by kernel_rfl
@[go_sem] theorem Try.aagg54 : aAgg Try.prog 54 = some false := by kernel_rfl
@[go_sem] theorem Try.azero54 : aZero Try.prog 54 = some [.sc .nilFunc] := by kernel_rfl
@[go_sem] theorem Try.asize55 : aSize Try.prog 55 = some 1 := by kernel_rfl
@[go_sem] theorem Try.abytes55 : aBytes Try.prog 55 = some 8 := by kernel_rfl
@[go_sem] theorem Try.aagg55 : aAgg Try.prog 55 = some false := by kernel_rfl
@[go_sem] theorem Try.azero55 : aZero Try.prog 55 = some [.sc .nilFunc] := by kernel_rfl
@[go_sem] theorem Try.asize56 : aSize Try.prog 56 = some 1 := by kernel_rfl
@[go_sem] theorem Try.abytes56 : aBytes Try.prog 56 = some 8 := by kernel_rfl
@[go_sem] theorem Try.aagg56 : aAgg Try.prog 56 = some false := by kernel_rfl
@[go_sem] theorem Try.azero56 : aZero Try.prog 56 = some [.sc .nilFunc] := by kernel_rfl
@[go_sem] theorem Try.asize57 : aSize Try.prog 57 = some 1 := by kernel_rfl
@[go_sem] theorem Try.abytes57 : aBytes Try.prog 57 = some 8 := by kernel_rfl
@[go_sem] theorem Try.aagg57 : aAgg Try.prog 57 = some false := by kernel_rfl
@[go_sem] theorem Try.azero57 : aZero Try.prog 57 = some [.sc .nilFunc] := by kernel_rfl
@[go_sem] theorem Try.asize58 : aSize Try.prog 58 = some 1 := by kernel_rfl
@[go_sem] theorem Try.abytes58 : aBytes Try.prog 58 = some 8 := by kernel_rfl
@[go_sem] theorem Try.aagg58 : aAgg Try.prog 58 = some false := by kernel_rfl
@[go_sem] theorem Try.azero58 : aZero Try.prog 58 = some [.sc .nilFunc] := by kernel_rfl
@[go_sem] theorem Try.asize59 : aSize Try.prog 59 = some 1 := by kernel_rfl
@[go_sem] theorem Try.abytes59 : aBytes Try.prog 59 = some 0 := by kernel_rfl
@[go_sem] theorem Try.aagg59 : aAgg Try.prog 59 = some false := by kernel_rfl
@[go_sem] theorem Try.asize60 : aSize Try.prog 60 = some 1 := by kernel_rfl
@[go_sem] theorem Try.abytes60 : aBytes Try.prog 60 = some 8 := by kernel_rfl
@[go_sem] theorem Try.aagg60 : aAgg Try.prog 60 = some false := by kernel_rfl
@[go_sem] theorem Try.azero60 : aZero Try.prog 60 = some [.sc .nilFunc] := by kernel_rfl
@[go_sem] theorem Try.asize61 : aSize Try.prog 61 = some 1 := by kernel_rfl
@[go_sem] theorem Try.abytes61 : aBytes Try.prog 61 = some 8 := by kernel_rfl
@[go_sem] theorem Try.aagg61 : aAgg Try.prog 61 = some false := by kernel_rfl
@[go_sem] theorem Try.azero61 : aZero Try.prog 61 = some [.sc .nilFunc] := by kernel_rfl
@[go_sem] theorem Try.asize62 : aSize Try.prog 62 = some 1 := by kernel_rfl
@[go_sem] theorem Try.abytes62 : aBytes Try.prog 62 = some 8 := by kernel_rfl
@[go_sem] theorem Try.aagg62 : aAgg Try.prog 62 = some false := by kernel_rfl
@[go_sem] theorem Try.azero62 : aZero Try.prog 62 = some [.sc .nilFunc] := by kernel_rfl
@[go_sem] theorem Try.asize63 : aSize Try.prog 63 = some 1 := by kernel_rfl
@[go_sem] theorem Try.abytes63 : aBytes Try.prog 63 = some 8 := by kernel_rfl
@[go_sem] theorem Try.aagg63 : aAgg Try.prog 63 = some false := by kernel_rfl
@[go_sem] theorem Try.azero63 : aZero Try.prog 63 = some [.sc .nilFunc] := by kernel_rfl
@[go_sem] theorem Try.asize64 : aSize Try.prog 64 = some 1 := by kernel_rfl
@[go_sem] theorem Try.abytes64 : aBytes Try.prog 64 = some 8 := by kernel_rfl
@[go_sem] theorem Try.aagg64 : aAgg Try.prog 64 = some false := by kernel_rfl
@[go_sem] theorem Try.azero64 : aZero Try.prog 64 = some [.sc .nilFunc] := by kernel_rfl
@[go_sem] theorem Try.asize65 : aSize Try.prog 65 = some 1 := by kernel_rfl
@[go_sem] theorem Try.abytes65 : aBytes Try.prog 65 = some 8 := by kernel_rfl
@[go_sem] theorem Try.aagg65 : aAgg Try.prog 65 = some false := by kernel_rfl
@[go_sem] theorem Try.azero65 : aZero Try.prog 65 = some [.sc .nilFunc] := by kernel_rfl
@[go_sem] theorem Try.asize66 : aSize Try.prog 66 = some 1 := by kernel_rfl
@[go_sem] theorem Try.abytes66 : aBytes Try.prog 66 = some 8 := by kernel_rfl
@[go_sem] theorem Try.aagg66 : aAgg Try.prog 66 = some false := by kernel_rfl
@[go_sem] theorem Try.azero66 : aZero Try.prog 66 = some [.sc .nilFunc] := by kernel_rfl
@[go_sem] theorem Try.asize67 : aSize Try.prog 67 = some 1 := by kernel_rfl
@[go_sem] theorem Try.abytes67 : aBytes Try.prog 67 = some 8 := by kernel_rfl
@[go_sem] theorem Try.aagg67 : aAgg Try.prog 67 = some false := by kernel_rfl
@[go_sem] theorem Try.azero67 : aZero Try.prog 67 = some [.sc (.int .u64 (0))] := by kernel_rfl
@[go_sem] theorem Try.asize68 : aSize Try.prog 68 = some 1 := by kernel_rfl
@[go_sem] theorem Try.abytes68 : aBytes Try.prog 68 = some 0 := by kernel_rfl
@[go_sem] theorem Try.aagg68 : aAgg Try.prog 68 = some false := by kernel_rfl
@[go_sem] theorem Try.asize69 : aSize Try.prog 69 = some 1 := by kernel_rfl
@[go_sem] theorem Try.abytes69 : aBytes Try.prog 69 = some 8 := by kernel_rfl
@[go_sem] theorem Try.aagg69 : aAgg Try.prog 69 = some false := by kernel_rfl
@[go_sem] theorem Try.azero69 : aZero Try.prog 69 = some [.sc .nilFunc] := by kernel_rfl
@[go_sem] theorem Try.asize70 : aSize Try.prog 70 = some 1 := by kernel_rfl
@[go_sem] theorem Try.abytes70 : aBytes Try.prog 70 = some 4 := by kernel_rfl
@[go_sem] theorem Try.aagg70 : aAgg Try.prog 70 = some false := by kernel_rfl
@[go_sem] theorem Try.azero70 : aZero Try.prog 70 = some [.sc (.int .u32 (0))] := by kernel_rfl
@[go_sem] theorem Try.asize71 : aSize Try.prog 71 = some 1 := by kernel_rfl
@[go_sem] theorem Try.abytes71 : aBytes Try.prog 71 = some 0 := by kernel_rfl
@[go_sem] theorem Try.aagg71 : aAgg Try.prog 71 = some false := by kernel_rfl
@[go_sem] theorem Try.asize72 : aSize Try.prog 72 = some 1 := by kernel_rfl
@[go_sem] theorem Try.abytes72 : aBytes Try.prog 72 = some 8 := by kernel_rfl
@[go_sem] theorem Try.aagg72 : aAgg Try.prog 72 = some false := by kernel_rfl
@[go_sem] theorem Try.azero72 : aZero Try.prog 72 = some [.sc .nilFunc] := by kernel_rfl
@[go_sem] theorem Try.asize73 : aSize Try.prog 73 = some 1 := by kernel_rfl
@[go_sem] theorem Try.abytes73 : aBytes Try.prog 73 = some 8 := by kernel_rfl
@[go_sem] theorem Try.aagg73 : aAgg Try.prog 73 = some false := by kernel_rfl
@[go_sem] theorem Try.azero73 : aZero Try.prog 73 = some [.sc (.int .u64 (0))] := by kernel_rfl
@[go_sem] theorem Try.asize74 : aSize Try.prog 74 = some 1 := by kernel_rfl
@[go_sem] theorem Try.abytes74 : aBytes Try.prog 74 = some 0 := by kernel_rfl
@[go_sem] theorem Try.aagg74 : aAgg Try.prog 74 = some false := by kernel_rfl
@[go_sem] theorem Try.asize75 : aSize Try.prog 75 = some 1 := by kernel_rfl
@[go_sem] theorem Try.abytes75 : aBytes Try.prog 75 = some 8 := by kernel_rfl
@[go_sem] theorem Try.aagg75 : aAgg Try.prog 75 = some false := by kernel_rfl
@[go_sem] theorem Try.azero75 : aZero Try.prog 75 = some [.sc .nilFunc] := by kernel_rfl
@[go_sem] theorem Try.asize76 : aSize Try.prog 76 = some 1 := by kernel_rfl
@[go_sem] theorem Try.abytes76 : aBytes Try.prog 76 = some 8 := by kernel_rfl
@[go_sem] theorem Try.aagg76 : aAgg Try.prog 76 = some false := by kernel_rfl
@[go_sem] theorem Try.azero76 : aZero Try.prog 76 = some [.sc .nilFunc] := by kernel_rfl
@[go_sem] theorem Try.asize77 : aSize Try.prog 77 = some 4 := by kernel_rfl
@[go_sem] theorem Try.abytes77 : aBytes Try.prog 77 = some 40 := by kernel_rfl
@[go_sem] theorem Try.aagg77 : aAgg Try.prog 77 = some true := by kernel_rfl
@[go_sem] theorem Try.afield77_0 : aField Try.prog 77 0 = some (0, 1) := by kernel_rfl
@[go_sem] theorem Try.afield77_1 : aField Try.prog 77 1 = some (1, 1) := by kernel_rfl
@[go_sem] theorem Try.afield77_2 : aField Try.prog 77 2 = some (2, 1) := by kernel_rfl
@[go_sem] theorem Try.afield77_3 : aField Try.prog 77 3 = some (3, 1) := by kernel_rfl
@[go_sem] theorem Try.afieldsok77 : aFieldsOk Try.prog 77 = true := by kernel_rfl
@[go_sem] theorem Try.azero77 : aZero Try.prog 77 = some [.sc (.pointer none), .sc (.pointer none), .sc (.pointer none), .sc (.string ⟨#[]⟩)] := by kernel_rfl
@[go_sem] theorem Try.asize78 : aSize Try.prog 78 = some 4 := by kernel_rfl
@[go_sem] theorem Try.abytes78 : aBytes Try.prog 78 = some 40 := by kernel_rfl
@[go_sem] theorem Try.aagg78 : aAgg Try.prog 78 = some true := by kernel_rfl
@[go_sem] theorem Try.afield78_0 : aField Try.prog 78 0 = some (0, 1) := by kernel_rfl
@[go_sem] theorem Try.afield78_1 : aField Try.prog 78 1 = some (1, 1) := by kernel_rfl
@[go_sem] theorem Try.afield78_2 : aField Try.prog 78 2 = some (2, 1) := by kernel_rfl
@[go_sem] theorem Try.afield78_3 : aField Try.prog 78 3 = some (3, 1) := by kernel_rfl
@[go_sem] theorem Try.afieldsok78 : aFieldsOk Try.prog 78 = true := by kernel_rfl
@[go_sem] theorem Try.azero78 : aZero Try.prog 78 = some [.sc (.pointer none), .sc (.pointer none), .sc (.pointer none), .sc (.string ⟨#[]⟩)] := by kernel_rfl
@[go_sem] theorem Try.asize82 : aSize Try.prog 82 = some 1 := by kernel_rfl
@[go_sem] theorem Try.abytes82 : aBytes Try.prog 82 = some 8 := by kernel_rfl
@[go_sem] theorem Try.aagg82 : aAgg Try.prog 82 = some false := by kernel_rfl
@[go_sem] theorem Try.azero82 : aZero Try.prog 82 = some [.sc .nilFunc] := by kernel_rfl
@[go_sem] theorem Try.asize83 : aSize Try.prog 83 = some 1 := by kernel_rfl
@[go_sem] theorem Try.abytes83 : aBytes Try.prog 83 = some 1 := by kernel_rfl
@[go_sem] theorem Try.aagg83 : aAgg Try.prog 83 = some false := by kernel_rfl
@[go_sem] theorem Try.azero83 : aZero Try.prog 83 = some [.sc (.int .u8 (0))] := by kernel_rfl
@[go_sem] theorem Try.asize84 : aSize Try.prog 84 = some 1 := by kernel_rfl
@[go_sem] theorem Try.abytes84 : aBytes Try.prog 84 = some 1 := by kernel_rfl
@[go_sem] theorem Try.aagg84 : aAgg Try.prog 84 = some false := by kernel_rfl
@[go_sem] theorem Try.azero84 : aZero Try.prog 84 = some [.sc (.int .u8 (0))] := by kernel_rfl
@[go_sem] theorem Try.asize85 : aSize Try.prog 85 = some 1 := by kernel_rfl
@[go_sem] theorem Try.abytes85 : aBytes Try.prog 85 = some 8 := by kernel_rfl
@[go_sem] theorem Try.aagg85 : aAgg Try.prog 85 = some false := by kernel_rfl
@[go_sem] theorem Try.azero85 : aZero Try.prog 85 = some [.sc .nilFunc] := by kernel_rfl
@[go_sem] theorem Try.asize86 : aSize Try.prog 86 = some 1 := by kernel_rfl
@[go_sem] theorem Try.abytes86 : aBytes Try.prog 86 = some 8 := by kernel_rfl
@[go_sem] theorem Try.aagg86 : aAgg Try.prog 86 = some false := by kernel_rfl
@[go_sem] theorem Try.azero86 : aZero Try.prog 86 = some [.sc (.pointer none)] := by kernel_rfl
@[go_sem] theorem Try.asize87 : aSize Try.prog 87 = some 1 := by kernel_rfl
@[go_sem] theorem Try.abytes87 : aBytes Try.prog 87 = some 4 := by kernel_rfl
@[go_sem] theorem Try.aagg87 : aAgg Try.prog 87 = some false := by kernel_rfl
@[go_sem] theorem Try.azero87 : aZero Try.prog 87 = some [.sc (.int .i32 (0))] := by kernel_rfl
@[go_sem] theorem Try.asize88 : aSize Try.prog 88 = some 1 := by kernel_rfl
@[go_sem] theorem Try.abytes88 : aBytes Try.prog 88 = some 4 := by kernel_rfl
@[go_sem] theorem Try.aagg88 : aAgg Try.prog 88 = some false := by kernel_rfl
@[go_sem] theorem Try.azero88 : aZero Try.prog 88 = some [.sc (.int .i32 (0))] := by kernel_rfl
@[go_sem] theorem Try.asize89 : aSize Try.prog 89 = some 11 := by kernel_rfl
@[go_sem] theorem Try.abytes89 : aBytes Try.prog 89 = some 48 := by kernel_rfl
@[go_sem] theorem Try.aagg89 : aAgg Try.prog 89 = some true := by kernel_rfl
@[go_sem] theorem Try.afield89_0 : aField Try.prog 89 0 = some (0, 1) := by kernel_rfl
@[go_sem] theorem Try.afield89_1 : aField Try.prog 89 1 = some (1, 1) := by kernel_rfl
@[go_sem] theorem Try.afield89_2 : aField Try.prog 89 2 = some (2, 1) := by kernel_rfl
@[go_sem] theorem Try.afield89_3 : aField Try.prog 89 3 = some (3, 1) := by kernel_rfl
@[go_sem] theorem Try.afield89_4 : aField Try.prog 89 4 = some (4, 1) := by kernel_rfl
@[go_sem] theorem Try.afield89_5 : aField Try.prog 89 5 = some (5, 1) := by kernel_rfl
@[go_sem] theorem Try.afield89_6 : aField Try.prog 89 6 = some (6, 1) := by kernel_rfl
@[go_sem] theorem Try.afield89_7 : aField Try.prog 89 7 = some (7, 1) := by kernel_rfl
@[go_sem] theorem Try.afield89_8 : aField Try.prog 89 8 = some (8, 1) := by kernel_rfl
@[go_sem] theorem Try.afield89_9 : aField Try.prog 89 9 = some (9, 1) := by kernel_rfl
@[go_sem] theorem Try.afield89_10 : aField Try.prog 89 10 = some (10, 1) := by kernel_rfl
@[go_sem] theorem Try.afieldsok89 : aFieldsOk Try.prog 89 = true := by kernel_rfl
@[go_sem] theorem Try.azero89 : aZero Try.prog 89 = some [.sc (.int .u64 (0)), .sc (.int .u64 (0)), .sc (.int .u32 (0)), .sc (.int .u8 (0)), .sc (.int .u8 (0)), .sc (.int .u8 (0)), .sc (.int .u8 (0)), .sc .nilFunc, .sc (.pointer none), .sc (.int .i32 (0)), .sc (.int .i32 (0))] := by kernel_rfl
@[go_sem] theorem Try.asize90 : aSize Try.prog 90 = some 11 := by kernel_rfl
@[go_sem] theorem Try.abytes90 : aBytes Try.prog 90 = some 48 := by kernel_rfl
@[go_sem] theorem Try.aagg90 : aAgg Try.prog 90 = some true := by kernel_rfl
@[go_sem] theorem Try.afield90_0 : aField Try.prog 90 0 = some (0, 1) := by kernel_rfl
@[go_sem] theorem Try.afield90_1 : aField Try.prog 90 1 = some (1, 1) := by kernel_rfl
@[go_sem] theorem Try.afield90_2 : aField Try.prog 90 2 = some (2, 1) := by kernel_rfl
@[go_sem] theorem Try.afield90_3 : aField Try.prog 90 3 = some (3, 1) := by kernel_rfl
@[go_sem] theorem Try.afield90_4 : aField Try.prog 90 4 = some (4, 1) := by kernel_rfl
@[go_sem] theorem Try.afield90_5 : aField Try.prog 90 5 = some (5, 1) := by kernel_rfl
@[go_sem] theorem Try.afield90_6 : aField Try.prog 90 6 = some (6, 1) := by kernel_rfl
@[go_sem] theorem Try.afield90_7 : aField Try.prog 90 7 = some (7, 1) := by kernel_rfl
@[go_sem] theorem Try.afield90_8 : aField Try.prog 90 8 = some (8, 1) := by kernel_rfl
@[go_sem] theorem Try.afield90_9 : aField Try.prog 90 9 = some (9, 1) := by kernel_rfl
@[go_sem] theorem Try.afield90_10 : aField Try.prog 90 10 = some (10, 1) := by kernel_rfl
@[go_sem] theorem Try.afieldsok90 : aFieldsOk Try.prog 90 = true := by kernel_rfl
@[go_sem] theorem Try.azero90 : aZero Try.prog 90 = some [.sc (.int .u64 (0)), .sc (.int .u64 (0)), .sc (.int .u32 (0)), .sc (.int .u8 (0)), .sc (.int .u8 (0)), .sc (.int .u8 (0)), .sc (.int .u8 (0)), .sc .nilFunc, .sc (.pointer none), .sc (.int .i32 (0)), .sc (.int .i32 (0))] := by kernel_rfl
@[go_sem] theorem Try.asize91 : aSize Try.prog 91 = some 1 := by kernel_rfl
@[go_sem] theorem Try.abytes91 : aBytes Try.prog 91 = some 8 := by kernel_rfl
@[go_sem] theorem Try.aagg91 : aAgg Try.prog 91 = some false := by kernel_rfl
@[go_sem] theorem Try.azero91 : aZero Try.prog 91 = some [.sc (.pointer none)] := by kernel_rfl
@[go_sem] theorem Try.abody2 : aBody Try.prog 2 = true := by kernel_rfl
@[go_sem] theorem Try.abody3 : aBody Try.prog 3 = true := by kernel_rfl
@[go_sem] theorem Try.abody4 : aBody Try.prog 4 = true := by kernel_rfl
@[go_sem] theorem Try.abody5 : aBody Try.prog 5 = true := by kernel_rfl
@[go_sem] theorem Try.abody6 : aBody Try.prog 6 = true := by kernel_rfl
@[go_sem] theorem Try.abody7 : aBody Try.prog 7 = true := by kernel_rfl
@[go_sem] theorem Try.abody8 : aBody Try.prog 8 = true := by kernel_rfl
@[go_sem] theorem Try.abody9 : aBody Try.prog 9 = true := by kernel_rfl
@[go_sem] theorem Try.abody10 : aBody Try.prog 10 = true := by kernel_rfl
@[go_sem] theorem Try.abody11 : aBody Try.prog 11 = true := by kernel_rfl
@[go_sem] theorem Try.abody12 : aBody Try.prog 12 = true := by kernel_rfl
@[go_sem] theorem Try.abody13 : aBody Try.prog 13 = true := by kernel_rfl
@[go_sem] theorem Try.abody14 : aBody Try.prog 14 = true := by kernel_rfl
@[go_sem] theorem Try.abody15 : aBody Try.prog 15 = true := by kernel_rfl
@[go_sem] theorem Try.abody16 : aBody Try.prog 16 = true := by kernel_rfl
@[go_sem] theorem Try.abody17 : aBody Try.prog 17 = true := by kernel_rfl
@[go_sem] theorem Try.abody18 : aBody Try.prog 18 = true := by kernel_rfl
@[go_sem] theorem Try.abody19 : aBody Try.prog 19 = true := by kernel_rfl
@[go_sem] theorem Try.abody20 : aBody Try.prog 20 = true := by kernel_rfl
@[go_sem] theorem Try.abody21 : aBody Try.prog 21 = true := by kernel_rfl
@[go_sem] theorem Try.abody22 : aBody Try.prog 22 = true := by kernel_rfl
@[go_sem] theorem Try.abody23 : aBody Try.prog 23 = true := by kernel_rfl
@[go_sem] theorem Try.abody24 : aBody Try.prog 24 = true := by kernel_rfl
@[go_sem] theorem Try.abody25 : aBody Try.prog 25 = true := by kernel_rfl
@[go_sem] theorem Try.abody26 : aBody Try.prog 26 = true := by kernel_rfl
@[go_sem] theorem Try.abody27 : aBody Try.prog 27 = true := by kernel_rfl
@[go_sem] theorem Try.abody28 : aBody Try.prog 28 = true := by kernel_rfl
@[go_sem] theorem Try.abody29 : aBody Try.prog 29 = true := by kernel_rfl
@[go_sem] theorem Try.abody30 : aBody Try.prog 30 = true := by kernel_rfl
@[go_sem] theorem Try.abody31 : aBody Try.prog 31 = true := by kernel_rfl
@[go_sem] theorem Try.abody32 : aBody Try.prog 32 = true := by kernel_rfl
@[go_sem] theorem Try.abody33 : aBody Try.prog 33 = true := by kernel_rfl
@[go_sem] theorem Try.abody34 : aBody Try.prog 34 = true := by kernel_rfl
@[go_sem] theorem Try.abody35 : aBody Try.prog 35 = true := by kernel_rfl
@[go_sem] theorem Try.abody36 : aBody Try.prog 36 = true := by kernel_rfl
@[go_sem] theorem Try.abody37 : aBody Try.prog 37 = true := by kernel_rfl
@[go_sem] theorem Try.abody38 : aBody Try.prog 38 = true := by kernel_rfl
@[go_sem] theorem Try.abody39 : aBody Try.prog 39 = true := by kernel_rfl
@[go_sem] theorem Try.abody40 : aBody Try.prog 40 = true := by kernel_rfl
@[go_sem] theorem Try.abody41 : aBody Try.prog 41 = true := by kernel_rfl
@[go_sem] theorem Try.abody42 : aBody Try.prog 42 = true := by kernel_rfl
@[go_sem] theorem Try.abody43 : aBody Try.prog 43 = true := by kernel_rfl
@[go_sem] theorem Try.abody44 : aBody Try.prog 44 = true := by kernel_rfl
@[go_sem] theorem Try.abody45 : aBody Try.prog 45 = true := by kernel_rfl
@[go_sem] theorem Try.abody46 : aBody Try.prog 46 = true := by kernel_rfl
@[go_sem] theorem Try.mixed : Try.prog.follows .mixedOrders = true := by kernel_rfl
end Go.Proofs
