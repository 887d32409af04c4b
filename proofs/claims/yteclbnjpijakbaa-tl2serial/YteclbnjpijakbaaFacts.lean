/- The facts on the types of this seat's program that the walks ask: printed by facts.sh, each reckoned by the kernel. -/
import Derived.Test.YteclbnjpijakbaaProg
import Derived.Test.YteclbnjpijakbaaA3
import Derived.KernelRfl
namespace Go.Proofs
open Go Go.AL
@[go_sem] theorem Try.asize0 : aSize Try.prog 0 = some 1 := by kernel_rfl
@[go_sem] theorem Try.abytes0 : aBytes Try.prog 0 = some 0 := by kernel_rfl
@[go_sem] theorem Try.aagg0 : aAgg Try.prog 0 = some false := by kernel_rfl
@[go_sem] theorem Try.asize1 : aSize Try.prog 1 = some 1 := by kernel_rfl
@[go_sem] theorem Try.abytes1 : aBytes Try.prog 1 = some 8 := by kernel_rfl
@[go_sem] theorem Try.aagg1 : aAgg Try.prog 1 = some false := by kernel_rfl
@[go_sem] theorem Try.azero1 : aZero Try.prog 1 = some [.sc .nilFunc] := by kernel_rfl
@[go_sem] theorem Try.asize2 : aSize Try.prog 2 = some 1 := by kernel_rfl
@[go_sem] theorem Try.abytes2 : aBytes Try.prog 2 = some 8 := by kernel_rfl
@[go_sem] theorem Try.aagg2 : aAgg Try.prog 2 = some false := by kernel_rfl
@[go_sem] theorem Try.azero2 : aZero Try.prog 2 = some [.sc (.int .i64 (0))] := by kernel_rfl
@[go_sem] theorem Try.asize3 : aSize Try.prog 3 = some 1 := by kernel_rfl
@[go_sem] theorem Try.abytes3 : aBytes Try.prog 3 = some 8 := by kernel_rfl
@[go_sem] theorem Try.aagg3 : aAgg Try.prog 3 = some false := by kernel_rfl
@[go_sem] theorem Try.azero3 : aZero Try.prog 3 = some [.sc (.int .i64 (0))] := by kernel_rfl
@[go_sem] theorem Try.asize4 : aSize Try.prog 4 = some 1 := by kernel_rfl
@[go_sem] theorem Try.abytes4 : aBytes Try.prog 4 = some 1 := by kernel_rfl
@[go_sem] theorem Try.aagg4 : aAgg Try.prog 4 = some false := by kernel_rfl
@[go_sem] theorem Try.aund4 : Try.prog.underlying 4 = some .bool := by kernel_rfl
@[go_sem] theorem Try.azero4 : aZero Try.prog 4 = some [.sc (.bool false)] := by kernel_rfl
@[go_sem] theorem Try.asize5 : aSize Try.prog 5 = some 1 := by kernel_rfl
@[go_sem] theorem Try.abytes5 : aBytes Try.prog 5 = some 1 := by kernel_rfl
@[go_sem] theorem Try.aagg5 : aAgg Try.prog 5 = some false := by kernel_rfl
@[go_sem] theorem Try.azero5 : aZero Try.prog 5 = some [.sc (.int .u8 (0))] := by kernel_rfl
@[go_sem] theorem Try.asize6 : aSize Try.prog 6 = some 1 := by kernel_rfl
@[go_sem] theorem Try.abytes6 : aBytes Try.prog 6 = some 1 := by kernel_rfl
@[go_sem] theorem Try.aagg6 : aAgg Try.prog 6 = some false := by kernel_rfl
@[go_sem] theorem Try.azero6 : aZero Try.prog 6 = some [.sc (.int .u8 (0))] := by kernel_rfl
@[go_sem] theorem Try.asize7 : aSize Try.prog 7 = some 4 := by kernel_rfl
@[go_sem] theorem Try.abytes7 : aBytes Try.prog 7 = some 24 := by kernel_rfl
@[go_sem] theorem Try.aagg7 : aAgg Try.prog 7 = some true := by kernel_rfl
@[go_sem] theorem Try.afield7_0 : aField Try.prog 7 0 = some (0, 1) := by kernel_rfl
@[go_sem] theorem Try.afield7_1 : aField Try.prog 7 1 = some (1, 1) := by kernel_rfl
@[go_sem] theorem Try.afield7_2 : aField Try.prog 7 2 = some (2, 1) := by kernel_rfl
@[go_sem] theorem Try.afield7_3 : aField Try.prog 7 3 = some (3, 1) := by kernel_rfl
@[go_sem] theorem Try.afieldsok7 : aFieldsOk Try.prog 7 = true := by kernel_rfl
@[go_sem] theorem Try.azero7 : aZero Try.prog 7 = some [.sc (.int .i64 (0)), .sc (.int .i64 (0)), .sc (.bool false), .sc (.int .u8 (0))] := by kernel_rfl
@[go_sem] theorem Try.asize8 : aSize Try.prog 8 = some 4 := by kernel_rfl
@[go_sem] theorem Try.abytes8 : aBytes Try.prog 8 = some 24 := by kernel_rfl
@[go_sem] theorem Try.aagg8 : aAgg Try.prog 8 = some true := by kernel_rfl
@[go_sem] theorem Try.afield8_0 : aField Try.prog 8 0 = some (0, 1) := by kernel_rfl
@[go_sem] theorem Try.afield8_1 : aField Try.prog 8 1 = some (1, 1) := by kernel_rfl
@[go_sem] theorem Try.afield8_2 : aField Try.prog 8 2 = some (2, 1) := by kernel_rfl
@[go_sem] theorem Try.afield8_3 : aField Try.prog 8 3 = some (3, 1) := by kernel_rfl
@[go_sem] theorem Try.afieldsok8 : aFieldsOk Try.prog 8 = true := by kernel_rfl
@[go_sem] theorem Try.azero8 : aZero Try.prog 8 = some [.sc (.int .i64 (0)), .sc (.int .i64 (0)), .sc (.bool false), .sc (.int .u8 (0))] := by kernel_rfl
@[go_sem] theorem Try.asize9 : aSize Try.prog 9 = some 1 := by kernel_rfl
@[go_sem] theorem Try.abytes9 : aBytes Try.prog 9 = some 16 := by kernel_rfl
@[go_sem] theorem Try.aagg9 : aAgg Try.prog 9 = some false := by kernel_rfl
@[go_sem] theorem Try.aund9 : Try.prog.underlying 9 = some .string := by kernel_rfl
@[go_sem] theorem Try.azero9 : aZero Try.prog 9 = some [.sc (.string ⟨#[]⟩)] := by kernel_rfl
@[go_sem] theorem Try.asize10 : aSize Try.prog 10 = some 1 := by kernel_rfl
@[go_sem] theorem Try.abytes10 : aBytes Try.prog 10 = some 16 := by kernel_rfl
@[go_sem] theorem Try.aagg10 : aAgg Try.prog 10 = some false := by kernel_rfl
@[go_sem] theorem Try.aund10 : Try.prog.underlying 10 = some .string := by kernel_rfl
@[go_sem] theorem Try.azero10 : aZero Try.prog 10 = some [.sc (.string ⟨#[]⟩)] := by kernel_rfl
@[go_sem] theorem Try.asize11 : aSize Try.prog 11 = some 1 := by kernel_rfl
@[go_sem] theorem Try.abytes11 : aBytes Try.prog 11 = some 16 := by kernel_rfl
@[go_sem] theorem Try.aagg11 : aAgg Try.prog 11 = some false := by kernel_rfl
@[go_sem] theorem Try.aund11 : Try.prog.underlying 11 = some .string := by kernel_rfl
@[go_sem] theorem Try.azero11 : aZero Try.prog 11 = some [.sc (.string ⟨#[]⟩)] := by kernel_rfl
@[go_sem] theorem Try.asize12 : aSize Try.prog 12 = some 1 := by kernel_rfl
@[go_sem] theorem Try.abytes12 : aBytes Try.prog 12 = some 8 := by kernel_rfl
@[go_sem] theorem Try.aagg12 : aAgg Try.prog 12 = some false := by kernel_rfl
@[go_sem] theorem Try.azero12 : aZero Try.prog 12 = some [.sc (.int .u64 (0))] := by kernel_rfl
@[go_sem] theorem Try.asize13 : aSize Try.prog 13 = some 2 := by kernel_rfl
@[go_sem] theorem Try.abytes13 : aBytes Try.prog 13 = some 24 := by kernel_rfl
@[go_sem] theorem Try.aagg13 : aAgg Try.prog 13 = some true := by kernel_rfl
@[go_sem] theorem Try.afield13_0 : aField Try.prog 13 0 = some (0, 1) := by kernel_rfl
@[go_sem] theorem Try.afield13_1 : aField Try.prog 13 1 = some (1, 1) := by kernel_rfl
@[go_sem] theorem Try.afieldsok13 : aFieldsOk Try.prog 13 = true := by kernel_rfl
@[go_sem] theorem Try.azero13 : aZero Try.prog 13 = some [.sc (.string ⟨#[]⟩), .sc (.int .u64 (0))] := by kernel_rfl
@[go_sem] theorem Try.asize14 : aSize Try.prog 14 = some 2 := by kernel_rfl
@[go_sem] theorem Try.abytes14 : aBytes Try.prog 14 = some 24 := by kernel_rfl
@[go_sem] theorem Try.aagg14 : aAgg Try.prog 14 = some true := by kernel_rfl
@[go_sem] theorem Try.afield14_0 : aField Try.prog 14 0 = some (0, 1) := by kernel_rfl
@[go_sem] theorem Try.afield14_1 : aField Try.prog 14 1 = some (1, 1) := by kernel_rfl
@[go_sem] theorem Try.afieldsok14 : aFieldsOk Try.prog 14 = true := by kernel_rfl
@[go_sem] theorem Try.azero14 : aZero Try.prog 14 = some [.sc (.string ⟨#[]⟩), .sc (.int .u64 (0))] := by kernel_rfl
@[go_sem] theorem Try.asize15 : aSize Try.prog 15 = some 1 := by kernel_rfl
@[go_sem] theorem Try.abytes15 : aBytes Try.prog 15 = some 8 := by kernel_rfl
@[go_sem] theorem Try.aagg15 : aAgg Try.prog 15 = some false := by kernel_rfl
@[go_sem] theorem Try.aisptr15 : aIsPtr Try.prog 15 = true := by kernel_rfl
@[go_sem] theorem Try.azero15 : aZero Try.prog 15 = some [.sc (.pointer none)] := by kernel_rfl
@[go_sem] theorem Try.asize16 : aSize Try.prog 16 = some 1 := by kernel_rfl
@[go_sem] theorem Try.abytes16 : aBytes Try.prog 16 = some 8 := by kernel_rfl
@[go_sem] theorem Try.aagg16 : aAgg Try.prog 16 = some false := by kernel_rfl
@[go_sem] theorem Try.aisptr16 : aIsPtr Try.prog 16 = true := by kernel_rfl
@[go_sem] theorem Try.azero16 : aZero Try.prog 16 = some [.sc (.pointer none)] := by kernel_rfl
@[go_sem] theorem Try.asize17 : aSize Try.prog 17 = some 1 := by kernel_rfl
@[go_sem] theorem Try.abytes17 : aBytes Try.prog 17 = some 8 := by kernel_rfl
@[go_sem] theorem Try.aagg17 : aAgg Try.prog 17 = some false := by kernel_rfl
@[go_sem] theorem Try.aisptr17 : aIsPtr Try.prog 17 = true := by kernel_rfl
@[go_sem] theorem Try.azero17 : aZero Try.prog 17 = some [.sc (.pointer none)] := by kernel_rfl
@[go_sem] theorem Try.asize18 : aSize Try.prog 18 = some 1 := by kernel_rfl
@[go_sem] theorem Try.abytes18 : aBytes Try.prog 18 = some 8 := by kernel_rfl
@[go_sem] theorem Try.aagg18 : aAgg Try.prog 18 = some true := by kernel_rfl
@[go_sem] theorem Try.afield18_0 : aField Try.prog 18 0 = some (0, 1) := by kernel_rfl
@[go_sem] theorem Try.afieldsok18 : aFieldsOk Try.prog 18 = true := by kernel_rfl
@[go_sem] theorem Try.azero18 : aZero Try.prog 18 = some [.sc (.pointer none)] := by kernel_rfl
@[go_sem] theorem Try.asize19 : aSize Try.prog 19 = some 1 := by kernel_rfl
@[go_sem] theorem Try.abytes19 : aBytes Try.prog 19 = some 8 := by kernel_rfl
@[go_sem] theorem Try.aagg19 : aAgg Try.prog 19 = some true := by kernel_rfl
@[go_sem] theorem Try.afield19_0 : aField Try.prog 19 0 = some (0, 1) := by kernel_rfl
@[go_sem] theorem Try.afieldsok19 : aFieldsOk Try.prog 19 = true := by kernel_rfl
@[go_sem] theorem Try.azero19 : aZero Try.prog 19 = some [.sc (.pointer none)] := by kernel_rfl
@[go_sem] theorem Try.asize20 : aSize Try.prog 20 = some 1 := by kernel_rfl
@[go_sem] theorem Try.abytes20 : aBytes Try.prog 20 = some 16 := by kernel_rfl
@[go_sem] theorem Try.aagg20 : aAgg Try.prog 20 = some false := by kernel_rfl
@[go_sem] theorem Try.azero20 : aZero Try.prog 20 = some [.sc .nilIface] := by kernel_rfl
@[go_sem] theorem Try.asize21 : aSize Try.prog 21 = some 1 := by kernel_rfl
@[go_sem] theorem Try.abytes21 : aBytes Try.prog 21 = some 4 := by kernel_rfl
@[go_sem] theorem Try.aagg21 : aAgg Try.prog 21 = some false := by kernel_rfl
@[go_sem] theorem Try.azero21 : aZero Try.prog 21 = some [.sc (.int .i32 (0))] := by kernel_rfl
@[go_sem] theorem Try.asize22 : aSize Try.prog 22 = some 1 := by kernel_rfl
@[go_sem] theorem Try.abytes22 : aBytes Try.prog 22 = some 24 := by kernel_rfl
@[go_sem] theorem Try.aagg22 : aAgg Try.prog 22 = some false := by kernel_rfl
@[go_sem] theorem Try.aelem22 : aElem Try.prog 22 = some 31 := by kernel_rfl
@[go_sem] theorem Try.azero22 : aZero Try.prog 22 = some [.slice .full 0 []] := by kernel_rfl
@[go_sem] theorem Try.asize23 : aSize Try.prog 23 = some 1 := by kernel_rfl
@[go_sem] theorem Try.abytes23 : aBytes Try.prog 23 = some 8 := by kernel_rfl
@[go_sem] theorem Try.aagg23 : aAgg Try.prog 23 = some false := by kernel_rfl
@[go_sem] theorem Try.aisptr23 : aIsPtr Try.prog 23 = true := by kernel_rfl
@[go_sem] theorem Try.azero23 : aZero Try.prog 23 = some [.sc (.pointer none)] := by kernel_rfl
@[go_sem] theorem Try.asize24 : aSize Try.prog 24 = some 1 := by kernel_rfl
@[go_sem] theorem Try.abytes24 : aBytes Try.prog 24 = some 8 := by kernel_rfl
@[go_sem] theorem Try.aagg24 : aAgg Try.prog 24 = some false := by kernel_rfl
@[go_sem] theorem Try.aisptr24 : aIsPtr Try.prog 24 = true := by kernel_rfl
@[go_sem] theorem Try.azero24 : aZero Try.prog 24 = some [.sc (.pointer none)] := by kernel_rfl
@[go_sem] theorem Try.asize25 : aSize Try.prog 25 = some 1 := by kernel_rfl
@[go_sem] theorem Try.abytes25 : aBytes Try.prog 25 = some 0 := by kernel_rfl
@[go_sem] theorem Try.aagg25 : aAgg Try.prog 25 = some false := by kernel_rfl
@[go_sem] theorem Try.asize26 : aSize Try.prog 26 = some 1 := by kernel_rfl
@[go_sem] theorem Try.abytes26 : aBytes Try.prog 26 = some 8 := by kernel_rfl
@[go_sem] theorem Try.aagg26 : aAgg Try.prog 26 = some false := by kernel_rfl
@[go_sem] theorem Try.azero26 : aZero Try.prog 26 = some [.sc .nilFunc] := by kernel_rfl
@[go_sem] theorem Try.asize27 : aSize Try.prog 27 = some 1 := by kernel_rfl
@[go_sem] theorem Try.abytes27 : aBytes Try.prog 27 = some 8 := by kernel_rfl
@[go_sem] theorem Try.aagg27 : aAgg Try.prog 27 = some false := by kernel_rfl
@[go_sem] theorem Try.azero27 : aZero Try.prog 27 = some [.sc (.int .i64 (0))] := by kernel_rfl
@[go_sem] theorem Try.asize28 : aSize Try.prog 28 = some 1 := by kernel_rfl
@[go_sem] theorem Try.abytes28 : aBytes Try.prog 28 = some 8 := by kernel_rfl
@[go_sem] theorem Try.aagg28 : aAgg Try.prog 28 = some false := by kernel_rfl
@[go_sem] theorem Try.azero28 : aZero Try.prog 28 = some [.sc .nilFunc] := by kernel_rfl
@[go_sem] theorem Try.asize29 : aSize Try.prog 29 = some 1 := by kernel_rfl
@[go_sem] theorem Try.abytes29 : aBytes Try.prog 29 = some 24 := by kernel_rfl
@[go_sem] theorem Try.aagg29 : aAgg Try.prog 29 = some false := by kernel_rfl
@[go_sem] theorem Try.aelem29 : aElem Try.prog 29 = some 3 := by kernel_rfl
@[go_sem] theorem Try.azero29 : aZero Try.prog 29 = some [.slice .full 0 []] := by kernel_rfl
@[go_sem] theorem Try.asize30 : aSize Try.prog 30 = some 4 := by kernel_rfl
@[go_sem] theorem Try.abytes30 : aBytes Try.prog 30 = some 32 := by kernel_rfl
@[go_sem] theorem Try.aagg30 : aAgg Try.prog 30 = some true := by kernel_rfl
@[go_sem] theorem Try.afield30_0 : aField Try.prog 30 0 = some (0, 1) := by kernel_rfl
@[go_sem] theorem Try.afield30_1 : aField Try.prog 30 1 = some (1, 1) := by kernel_rfl
@[go_sem] theorem Try.afield30_2 : aField Try.prog 30 2 = some (2, 1) := by kernel_rfl
@[go_sem] theorem Try.afield30_3 : aField Try.prog 30 3 = some (3, 1) := by kernel_rfl
@[go_sem] theorem Try.afieldsok30 : aFieldsOk Try.prog 30 = true := by kernel_rfl
@[go_sem] theorem Try.azero30 : aZero Try.prog 30 = some [.sc (.int .i64 (0)), .sc (.int .i64 (0)), .sc (.int .i64 (0)), .sc (.int .i64 (0))] := by kernel_rfl
@[go_sem] theorem Try.asize31 : aSize Try.prog 31 = some 4 := by kernel_rfl
@[go_sem] theorem Try.abytes31 : aBytes Try.prog 31 = some 32 := by kernel_rfl
@[go_sem] theorem Try.aagg31 : aAgg Try.prog 31 = some true := by kernel_rfl
@[go_sem] theorem Try.afield31_0 : aField Try.prog 31 0 = some (0, 1) := by kernel_rfl
@[go_sem] theorem Try.afield31_1 : aField Try.prog 31 1 = some (1, 1) := by kernel_rfl
@[go_sem] theorem Try.afield31_2 : aField Try.prog 31 2 = some (2, 1) := by kernel_rfl
@[go_sem] theorem Try.afield31_3 : aField Try.prog 31 3 = some (3, 1) := by kernel_rfl
@[go_sem] theorem Try.afieldsok31 : aFieldsOk Try.prog 31 = true := by kernel_rfl
@[go_sem] theorem Try.azero31 : aZero Try.prog 31 = some [.sc (.int .i64 (0)), .sc (.int .i64 (0)), .sc (.int .i64 (0)), .sc (.int .i64 (0))] := by kernel_rfl
@[go_sem] theorem Try.asize32 : aSize Try.prog 32 = some 1 := by kernel_rfl
@[go_sem] theorem Try.abytes32 : aBytes Try.prog 32 = some 8 := by kernel_rfl
@[go_sem] theorem Try.aagg32 : aAgg Try.prog 32 = some false := by kernel_rfl
@[go_sem] theorem Try.azero32 : aZero Try.prog 32 = some [.sc .nilFunc] := by kernel_rfl
@[go_sem] theorem Try.asize33 : aSize Try.prog 33 = some 1 := by kernel_rfl
@[go_sem] theorem Try.abytes33 : aBytes Try.prog 33 = some 0 := by kernel_rfl
@[go_sem] theorem Try.aagg33 : aAgg Try.prog 33 = some false := by kernel_rfl
@[go_sem] theorem Try.asize34 : aSize Try.prog 34 = some 1 := by kernel_rfl
@[go_sem] theorem Try.abytes34 : aBytes Try.prog 34 = some 8 := by kernel_rfl
@[go_sem] theorem Try.aagg34 : aAgg Try.prog 34 = some false := by kernel_rfl
@[go_sem] theorem Try.azero34 : aZero Try.prog 34 = some [.sc .nilFunc] := by kernel_rfl
@[go_sem] theorem Try.asize35 : aSize Try.prog 35 = some 1 := by kernel_rfl
@[go_sem] theorem Try.abytes35 : aBytes Try.prog 35 = some 8 := by kernel_rfl
@[go_sem] theorem Try.aagg35 : aAgg Try.prog 35 = some false := by kernel_rfl
@[go_sem] theorem Try.azero35 : aZero Try.prog 35 = some [.sc .nilFunc] := by kernel_rfl
@[go_sem] theorem Try.asize36 : aSize Try.prog 36 = some 1 := by kernel_rfl
@[go_sem] theorem Try.abytes36 : aBytes Try.prog 36 = some 8 := by kernel_rfl
@[go_sem] theorem Try.aagg36 : aAgg Try.prog 36 = some false := by kernel_rfl
@[go_sem] theorem Try.azero36 : aZero Try.prog 36 = some [.sc .nilFunc] := by kernel_rfl
@[go_sem] theorem Try.asize37 : aSize Try.prog 37 = some 2 := by kernel_rfl
@[go_sem] theorem Try.abytes37 : aBytes Try.prog 37 = some 16 := by kernel_rfl
@[go_sem] theorem Try.aagg37 : aAgg Try.prog 37 = some true := by kernel_rfl
@[go_sem] theorem Try.afield37_0 : aField Try.prog 37 0 = some (0, 1) := by kernel_rfl
@[go_sem] theorem Try.afield37_1 : aField Try.prog 37 1 = some (1, 1) := by kernel_rfl
@[go_sem] theorem Try.afieldsok37 : aFieldsOk Try.prog 37 = true := by kernel_rfl
@[go_sem] theorem Try.azero37 : aZero Try.prog 37 = some [.sc (.int .i64 (0)), .sc (.int .i64 (0))] := by kernel_rfl
@[go_sem] theorem Try.asize38 : aSize Try.prog 38 = some 2 := by kernel_rfl
@[go_sem] theorem Try.abytes38 : aBytes Try.prog 38 = some 16 := by kernel_rfl
@[go_sem] theorem Try.aagg38 : aAgg Try.prog 38 = some true := by kernel_rfl
@[go_sem] theorem Try.afield38_0 : aField Try.prog 38 0 = some (0, 1) := by kernel_rfl
@[go_sem] theorem Try.afield38_1 : aField Try.prog 38 1 = some (1, 1) := by kernel_rfl
@[go_sem] theorem Try.afieldsok38 : aFieldsOk Try.prog 38 = true := by kernel_rfl
@[go_sem] theorem Try.azero38 : aZero Try.prog 38 = some [.sc (.int .i64 (0)), .sc (.int .i64 (0))] := by kernel_rfl
@[go_sem] theorem Try.asize39 : aSize Try.prog 39 = some 1 := by kernel_rfl
@[go_sem] theorem Try.abytes39 : aBytes Try.prog 39 = some 0 := by kernel_rfl
@[go_sem] theorem Try.aagg39 : aAgg Try.prog 39 = some false := by kernel_rfl
@[go_sem] theorem Try.asize40 : aSize Try.prog 40 = some 1 := by kernel_rfl
@[go_sem] theorem Try.abytes40 : aBytes Try.prog 40 = some 8 := by kernel_rfl
@[go_sem] theorem Try.aagg40 : aAgg Try.prog 40 = some false := by kernel_rfl
@[go_sem] theorem Try.azero40 : aZero Try.prog 40 = some [.sc .nilFunc] := by kernel_rfl
@[go_sem] theorem Try.asize41 : aSize Try.prog 41 = some 1 := by kernel_rfl
@[go_sem] theorem Try.abytes41 : aBytes Try.prog 41 = some 8 := by kernel_rfl
@[go_sem] theorem Try.aagg41 : aAgg Try.prog 41 = some false := by kernel_rfl
@[go_sem] theorem Try.azero41 : aZero Try.prog 41 = some [.sc .nilFunc] := by kernel_rfl
@[go_sem] theorem Try.asize42 : aSize Try.prog 42 = some 1 := by kernel_rfl
@[go_sem] theorem Try.abytes42 : aBytes Try.prog 42 = some 8 := by kernel_rfl
@[go_sem] theorem Try.aagg42 : aAgg Try.prog 42 = some false := by kernel_rfl
@[go_sem] theorem Try.azero42 : aZero Try.prog 42 = some [.sc .nilFunc] := by kernel_rfl
@[go_sem] theorem Try.asize43 : aSize Try.prog 43 = some 1 := by kernel_rfl
@[go_sem] theorem Try.abytes43 : aBytes Try.prog 43 = some 8 := by kernel_rfl
@[go_sem] theorem Try.aagg43 : aAgg Try.prog 43 = some false := by kernel_rfl
@[go_sem] theorem Try.azero43 : aZero Try.prog 43 = some [.sc .nilFunc] := by kernel_rfl
@[go_sem] theorem Try.asize44 : aSize Try.prog 44 = some 1 := by kernel_rfl
@[go_sem] theorem Try.abytes44 : aBytes Try.prog 44 = some 8 := by kernel_rfl
@[go_sem] theorem Try.aagg44 : aAgg Try.prog 44 = some false := by kernel_rfl
@[go_sem] theorem Try.azero44 : aZero Try.prog 44 = some [.sc .nilFunc] := by kernel_rfl
@[go_sem] theorem Try.asize45 : aSize Try.prog 45 = some 1 := by kernel_rfl
@[go_sem] theorem Try.abytes45 : aBytes Try.prog 45 = some 8 := by kernel_rfl
@[go_sem] theorem Try.aagg45 : aAgg Try.prog 45 = some false := by kernel_rfl
@[go_sem] theorem Try.azero45 : aZero Try.prog 45 = some [.sc .nilFunc] := by kernel_rfl
@[go_sem] theorem Try.asize46 : aSize Try.prog 46 = some 1 := by kernel_rfl
@[go_sem] theorem Try.abytes46 : aBytes Try.prog 46 = some 24 := by kernel_rfl
@[go_sem] theorem Try.aagg46 : aAgg Try.prog 46 = some false := by kernel_rfl
@[go_sem] theorem Try.aelem46 : aElem Try.prog 46 = some 29 := by kernel_rfl
@[go_sem] theorem Try.azero46 : aZero Try.prog 46 = some [.slice .full 0 []] := by kernel_rfl
@[go_sem] theorem Try.asize47 : aSize Try.prog 47 = some 1 := by kernel_rfl
@[go_sem] theorem Try.abytes47 : aBytes Try.prog 47 = some 24 := by kernel_rfl
@[go_sem] theorem Try.aagg47 : aAgg Try.prog 47 = some false := by kernel_rfl
@[go_sem] theorem Try.aelem47 : aElem Try.prog 47 = some 59 := by kernel_rfl
@[go_sem] theorem Try.azero47 : aZero Try.prog 47 = some [.slice .full 0 []] := by kernel_rfl
@[go_sem] theorem Try.asize48 : aSize Try.prog 48 = some 1 := by kernel_rfl
@[go_sem] theorem Try.abytes48 : aBytes Try.prog 48 = some 24 := by kernel_rfl
@[go_sem] theorem Try.aagg48 : aAgg Try.prog 48 = some false := by kernel_rfl
@[go_sem] theorem Try.aelem48 : aElem Try.prog 48 = some 61 := by kernel_rfl
@[go_sem] theorem Try.azero48 : aZero Try.prog 48 = some [.slice .full 0 []] := by kernel_rfl
@[go_sem] theorem Try.asize49 : aSize Try.prog 49 = some 1 := by kernel_rfl
@[go_sem] theorem Try.abytes49 : aBytes Try.prog 49 = some 8 := by kernel_rfl
@[go_sem] theorem Try.aagg49 : aAgg Try.prog 49 = some false := by kernel_rfl
@[go_sem] theorem Try.azero49 : aZero Try.prog 49 = some [.sc .nilFunc] := by kernel_rfl
@[go_sem] theorem Try.asize50 : aSize Try.prog 50 = some 8 := by kernel_rfl
@[go_sem] theorem Try.abytes50 : aBytes Try.prog 50 = some 96 := by kernel_rfl
@[go_sem] theorem Try.aagg50 : aAgg Try.prog 50 = some true := by kernel_rfl
@[go_sem] theorem Try.afield50_0 : aField Try.prog 50 0 = some (0, 1) := by kernel_rfl
@[go_sem] theorem Try.afield50_1 : aField Try.prog 50 1 = some (1, 1) := by kernel_rfl
@[go_sem] theorem Try.afield50_2 : aField Try.prog 50 2 = some (2, 1) := by kernel_rfl
@[go_sem] theorem Try.afield50_3 : aField Try.prog 50 3 = some (3, 1) := by kernel_rfl
@[go_sem] theorem Try.afield50_4 : aField Try.prog 50 4 = some (4, 1) := by kernel_rfl
@[go_sem] theorem Try.afield50_5 : aField Try.prog 50 5 = some (5, 1) := by kernel_rfl
@[go_sem] theorem Try.afield50_6 : aField Try.prog 50 6 = some (6, 1) := by kernel_rfl
@[go_sem] theorem Try.afield50_7 : aField Try.prog 50 7 = some (7, 1) := by kernel_rfl
@[go_sem] theorem Try.afieldsok50 : aFieldsOk Try.prog 50 = true := by kernel_rfl
@[go_sem] theorem Try.azero50 : aZero Try.prog 50 = some [.sc (.bool false), .sc (.int .i64 (0)), .slice .full 0 [], .slice .full 0 [], .sc (.int .i64 (0)), .sc (.bool false), .sc (.int .i64 (0)), .sc (.int .i64 (0))] := by kernel_rfl
@[go_sem] theorem Try.asize51 : aSize Try.prog 51 = some 8 := by kernel_rfl
@[go_sem] theorem Try.abytes51 : aBytes Try.prog 51 = some 96 := by kernel_rfl
@[go_sem] theorem Try.aagg51 : aAgg Try.prog 51 = some true := by kernel_rfl
@[go_sem] theorem Try.afield51_0 : aField Try.prog 51 0 = some (0, 1) := by kernel_rfl
@[go_sem] theorem Try.afield51_1 : aField Try.prog 51 1 = some (1, 1) := by kernel_rfl
@[go_sem] theorem Try.afield51_2 : aField Try.prog 51 2 = some (2, 1) := by kernel_rfl
@[go_sem] theorem Try.afield51_3 : aField Try.prog 51 3 = some (3, 1) := by kernel_rfl
@[go_sem] theorem Try.afield51_4 : aField Try.prog 51 4 = some (4, 1) := by kernel_rfl
@[go_sem] theorem Try.afield51_5 : aField Try.prog 51 5 = some (5, 1) := by kernel_rfl
@[go_sem] theorem Try.afield51_6 : aField Try.prog 51 6 = some (6, 1) := by kernel_rfl
@[go_sem] theorem Try.afield51_7 : aField Try.prog 51 7 = some (7, 1) := by kernel_rfl
@[go_sem] theorem Try.afieldsok51 : aFieldsOk Try.prog 51 = true := by kernel_rfl
@[go_sem] theorem Try.azero51 : aZero Try.prog 51 = some [.sc (.bool false), .sc (.int .i64 (0)), .slice .full 0 [], .slice .full 0 [], .sc (.int .i64 (0)), .sc (.bool false), .sc (.int .i64 (0)), .sc (.int .i64 (0))] := by kernel_rfl
@[go_sem] theorem Try.asize52 : aSize Try.prog 52 = some 1 := by kernel_rfl
@[go_sem] theorem Try.abytes52 : aBytes Try.prog 52 = some 24 := by kernel_rfl
@[go_sem] theorem Try.aagg52 : aAgg Try.prog 52 = some false := by kernel_rfl
@[go_sem] theorem Try.aelem52 : aElem Try.prog 52 = some 69 := by kernel_rfl
@[go_sem] theorem Try.azero52 : aZero Try.prog 52 = some [.slice .full 0 []] := by kernel_rfl
@[go_sem] theorem Try.asize53 : aSize Try.prog 53 = some 1 := by kernel_rfl
@[go_sem] theorem Try.abytes53 : aBytes Try.prog 53 = some 24 := by kernel_rfl
@[go_sem] theorem Try.aagg53 : aAgg Try.prog 53 = some false := by kernel_rfl
@[go_sem] theorem Try.aelem53 : aElem Try.prog 53 = some 51 := by kernel_rfl
@[go_sem] theorem Try.azero53 : aZero Try.prog 53 = some [.slice .full 0 []] := by kernel_rfl
@[go_sem] theorem Try.asize54 : aSize Try.prog 54 = some 3 := by kernel_rfl
@[go_sem] theorem Try.abytes54 : aBytes Try.prog 54 = some 56 := by kernel_rfl
@[go_sem] theorem Try.aagg54 : aAgg Try.prog 54 = some true := by kernel_rfl
@[go_sem] theorem Try.afield54_0 : aField Try.prog 54 0 = some (0, 1) := by kernel_rfl
@[go_sem] theorem Try.afield54_1 : aField Try.prog 54 1 = some (1, 1) := by kernel_rfl
@[go_sem] theorem Try.afield54_2 : aField Try.prog 54 2 = some (2, 1) := by kernel_rfl
@[go_sem] theorem Try.afieldsok54 : aFieldsOk Try.prog 54 = true := by kernel_rfl
@[go_sem] theorem Try.azero54 : aZero Try.prog 54 = some [.sc (.int .i64 (0)), .slice .full 0 [], .slice .full 0 []] := by kernel_rfl
@[go_sem] theorem Try.asize55 : aSize Try.prog 55 = some 3 := by kernel_rfl
@[go_sem] theorem Try.abytes55 : aBytes Try.prog 55 = some 56 := by kernel_rfl
@[go_sem] theorem Try.aagg55 : aAgg Try.prog 55 = some true := by kernel_rfl
@[go_sem] theorem Try.afield55_0 : aField Try.prog 55 0 = some (0, 1) := by kernel_rfl
@[go_sem] theorem Try.afield55_1 : aField Try.prog 55 1 = some (1, 1) := by kernel_rfl
@[go_sem] theorem Try.afield55_2 : aField Try.prog 55 2 = some (2, 1) := by kernel_rfl
@[go_sem] theorem Try.afieldsok55 : aFieldsOk Try.prog 55 = true := by kernel_rfl
@[go_sem] theorem Try.azero55 : aZero Try.prog 55 = some [.sc (.int .i64 (0)), .slice .full 0 [], .slice .full 0 []] := by kernel_rfl
@[go_sem] theorem Try.asize56 : aSize Try.prog 56 = some 1 := by kernel_rfl
@[go_sem] theorem Try.abytes56 : aBytes Try.prog 56 = some 8 := by kernel_rfl
@[go_sem] theorem Try.aagg56 : aAgg Try.prog 56 = some false := by kernel_rfl
@[go_sem] theorem Try.azero56 : aZero Try.prog 56 = some [.sc .nilFunc] := by kernel_rfl
@[go_sem] theorem Try.asize57 : aSize Try.prog 57 = some 1 := by kernel_rfl
@[go_sem] theorem Try.abytes57 : aBytes Try.prog 57 = some 8 := by kernel_rfl
@[go_sem] theorem Try.aagg57 : aAgg Try.prog 57 = some false := by kernel_rfl
@[go_sem] theorem Try.azero57 : aZero Try.prog 57 = some [.sc .nilFunc] := by kernel_rfl
@[go_sem] theorem Try.asize58 : aSize Try.prog 58 = some 3 := by kernel_rfl
@[go_sem] theorem Try.abytes58 : aBytes Try.prog 58 = some 24 := by kernel_rfl
@[go_sem] theorem Try.aagg58 : aAgg Try.prog 58 = some true := by kernel_rfl
@[go_sem] theorem Try.afield58_0 : aField Try.prog 58 0 = some (0, 1) := by kernel_rfl
@[go_sem] theorem Try.afield58_1 : aField Try.prog 58 1 = some (1, 1) := by kernel_rfl
@[go_sem] theorem Try.afield58_2 : aField Try.prog 58 2 = some (2, 1) := by kernel_rfl
@[go_sem] theorem Try.afieldsok58 : aFieldsOk Try.prog 58 = true := by kernel_rfl
@[go_sem] theorem Try.azero58 : aZero Try.prog 58 = some [.sc (.int .i64 (0)), .sc (.int .i64 (0)), .sc (.int .i64 (0))] := by kernel_rfl
@[go_sem] theorem Try.asize59 : aSize Try.prog 59 = some 3 := by kernel_rfl
@[go_sem] theorem Try.abytes59 : aBytes Try.prog 59 = some 24 := by kernel_rfl
@[go_sem] theorem Try.aagg59 : aAgg Try.prog 59 = some true := by kernel_rfl
@[go_sem] theorem Try.afield59_0 : aField Try.prog 59 0 = some (0, 1) := by kernel_rfl
@[go_sem] theorem Try.afield59_1 : aField Try.prog 59 1 = some (1, 1) := by kernel_rfl
@[go_sem] theorem Try.afield59_2 : aField Try.prog 59 2 = some (2, 1) := by kernel_rfl
@[go_sem] theorem Try.afieldsok59 : aFieldsOk Try.prog 59 = true := by kernel_rfl
@[go_sem] theorem Try.azero59 : aZero Try.prog 59 = some [.sc (.int .i64 (0)), .sc (.int .i64 (0)), .sc (.int .i64 (0))] := by kernel_rfl
@[go_sem] theorem Try.asize60 : aSize Try.prog 60 = some 3 := by kernel_rfl
@[go_sem] theorem Try.abytes60 : aBytes Try.prog 60 = some 24 := by kernel_rfl
@[go_sem] theorem Try.aagg60 : aAgg Try.prog 60 = some true := by kernel_rfl
@[go_sem] theorem Try.afield60_0 : aField Try.prog 60 0 = some (0, 1) := by kernel_rfl
@[go_sem] theorem Try.afield60_1 : aField Try.prog 60 1 = some (1, 1) := by kernel_rfl
@[go_sem] theorem Try.afield60_2 : aField Try.prog 60 2 = some (2, 1) := by kernel_rfl
@[go_sem] theorem Try.afieldsok60 : aFieldsOk Try.prog 60 = true := by kernel_rfl
@[go_sem] theorem Try.azero60 : aZero Try.prog 60 = some [.sc (.int .i64 (0)), .sc (.int .i64 (0)), .sc (.int .i64 (0))] := by kernel_rfl
@[go_sem] theorem Try.asize61 : aSize Try.prog 61 = some 3 := by kernel_rfl
@[go_sem] theorem Try.abytes61 : aBytes Try.prog 61 = some 24 := by kernel_rfl
@[go_sem] theorem Try.aagg61 : aAgg Try.prog 61 = some true := by kernel_rfl
@[go_sem] theorem Try.afield61_0 : aField Try.prog 61 0 = some (0, 1) := by kernel_rfl
@[go_sem] theorem Try.afield61_1 : aField Try.prog 61 1 = some (1, 1) := by kernel_rfl
@[go_sem] theorem Try.afield61_2 : aField Try.prog 61 2 = some (2, 1) := by kernel_rfl
@[go_sem] theorem Try.afieldsok61 : aFieldsOk Try.prog 61 = true := by kernel_rfl
@[go_sem] theorem Try.azero61 : aZero Try.prog 61 = some [.sc (.int .i64 (0)), .sc (.int .i64 (0)), .sc (.int .i64 (0))] := by kernel_rfl
@[go_sem] theorem Try.asize62 : aSize Try.prog 62 = some 1 := by kernel_rfl
@[go_sem] theorem Try.abytes62 : aBytes Try.prog 62 = some 8 := by kernel_rfl
@[go_sem] theorem Try.aagg62 : aAgg Try.prog 62 = some false := by kernel_rfl
@[go_sem] theorem Try.azero62 : aZero Try.prog 62 = some [.sc .nilFunc] := by kernel_rfl
@[go_sem] theorem Try.asize63 : aSize Try.prog 63 = some 1 := by kernel_rfl
@[go_sem] theorem Try.abytes63 : aBytes Try.prog 63 = some 8 := by kernel_rfl
@[go_sem] theorem Try.aagg63 : aAgg Try.prog 63 = some false := by kernel_rfl
@[go_sem] theorem Try.azero63 : aZero Try.prog 63 = some [.sc .nilFunc] := by kernel_rfl
@[go_sem] theorem Try.asize64 : aSize Try.prog 64 = some 1 := by kernel_rfl
@[go_sem] theorem Try.abytes64 : aBytes Try.prog 64 = some 8 := by kernel_rfl
@[go_sem] theorem Try.aagg64 : aAgg Try.prog 64 = some false := by kernel_rfl
@[go_sem] theorem Try.azero64 : aZero Try.prog 64 = some [.sc .nilFunc] := by kernel_rfl
@[go_sem] theorem Try.asize65 : aSize Try.prog 65 = some 1 := by kernel_rfl
@[go_sem] theorem Try.abytes65 : aBytes Try.prog 65 = some 8 := by kernel_rfl
@[go_sem] theorem Try.aagg65 : aAgg Try.prog 65 = some false := by kernel_rfl
@[go_sem] theorem Try.azero65 : aZero Try.prog 65 = some [.sc .nilFunc] := by kernel_rfl
@[go_sem] theorem Try.asize66 : aSize Try.prog 66 = some 1 := by kernel_rfl
@[go_sem] theorem Try.abytes66 : aBytes Try.prog 66 = some 8 := by kernel_rfl
@[go_sem] theorem Try.aagg66 : aAgg Try.prog 66 = some false := by kernel_rfl
@[go_sem] theorem Try.azero66 : aZero Try.prog 66 = some [.sc .nilFunc] := by kernel_rfl
@[go_sem] theorem Try.asize67 : aSize Try.prog 67 = some 1 := by kernel_rfl
@[go_sem] theorem Try.abytes67 : aBytes Try.prog 67 = some 8 := by kernel_rfl
@[go_sem] theorem Try.aagg67 : aAgg Try.prog 67 = some false := by kernel_rfl
@[go_sem] theorem Try.azero67 : aZero Try.prog 67 = some [.sc .nilFunc] := by kernel_rfl
@[go_sem] theorem Try.asize68 : aSize Try.prog 68 = some 3 := by kernel_rfl
@[go_sem] theorem Try.abytes68 : aBytes Try.prog 68 = some 24 := by kernel_rfl
@[go_sem] theorem Try.aagg68 : aAgg Try.prog 68 = some true := by kernel_rfl
@[go_sem] theorem Try.afield68_0 : aField Try.prog 68 0 = some (0, 1) := by kernel_rfl
@[go_sem] theorem Try.afield68_1 : aField Try.prog 68 1 = some (1, 1) := by kernel_rfl
@[go_sem] theorem Try.afield68_2 : aField Try.prog 68 2 = some (2, 1) := by kernel_rfl
@[go_sem] theorem Try.afieldsok68 : aFieldsOk Try.prog 68 = true := by kernel_rfl
@[go_sem] theorem Try.azero68 : aZero Try.prog 68 = some [.sc (.int .i64 (0)), .sc (.int .i64 (0)), .sc (.int .i64 (0))] := by kernel_rfl
@[go_sem] theorem Try.asize69 : aSize Try.prog 69 = some 3 := by kernel_rfl
@[go_sem] theorem Try.abytes69 : aBytes Try.prog 69 = some 24 := by kernel_rfl
@[go_sem] theorem Try.aagg69 : aAgg Try.prog 69 = some true := by kernel_rfl
@[go_sem] theorem Try.afield69_0 : aField Try.prog 69 0 = some (0, 1) := by kernel_rfl
@[go_sem] theorem Try.afield69_1 : aField Try.prog 69 1 = some (1, 1) := by kernel_rfl
@[go_sem] theorem Try.afield69_2 : aField Try.prog 69 2 = some (2, 1) := by kernel_rfl
@[go_sem] theorem Try.afieldsok69 : aFieldsOk Try.prog 69 = true := by kernel_rfl
@[go_sem] theorem Try.azero69 : aZero Try.prog 69 = some [.sc (.int .i64 (0)), .sc (.int .i64 (0)), .sc (.int .i64 (0))] := by kernel_rfl
@[go_sem] theorem Try.asize70 : aSize Try.prog 70 = some 1 := by kernel_rfl
@[go_sem] theorem Try.abytes70 : aBytes Try.prog 70 = some 8 := by kernel_rfl
@[go_sem] theorem Try.aagg70 : aAgg Try.prog 70 = some false := by kernel_rfl
@[go_sem] theorem Try.azero70 : aZero Try.prog 70 = some [.sc .nilFunc] := by kernel_rfl
@[go_sem] theorem Try.asize71 : aSize Try.prog 71 = some 1 := by kernel_rfl
@[go_sem] theorem Try.abytes71 : aBytes Try.prog 71 = some 24 := by kernel_rfl
@[go_sem] theorem Try.aagg71 : aAgg Try.prog 71 = some false := by kernel_rfl
@[go_sem] theorem Try.aelem71 : aElem Try.prog 71 = some 113 := by kernel_rfl
@[go_sem] theorem Try.azero71 : aZero Try.prog 71 = some [.slice .full 0 []] := by kernel_rfl
@[go_sem] theorem Try.asize72 : aSize Try.prog 72 = some 1 := by kernel_rfl
@[go_sem] theorem Try.abytes72 : aBytes Try.prog 72 = some 8 := by kernel_rfl
@[go_sem] theorem Try.aagg72 : aAgg Try.prog 72 = some false := by kernel_rfl
@[go_sem] theorem Try.azero72 : aZero Try.prog 72 = some [.sc .nilFunc] := by kernel_rfl
@[go_sem] theorem Try.asize73 : aSize Try.prog 73 = some 1 := by kernel_rfl
@[go_sem] theorem Try.abytes73 : aBytes Try.prog 73 = some 24 := by kernel_rfl
@[go_sem] theorem Try.aagg73 : aAgg Try.prog 73 = some false := by kernel_rfl
@[go_sem] theorem Try.aelem73 : aElem Try.prog 73 = some 76 := by kernel_rfl
@[go_sem] theorem Try.azero73 : aZero Try.prog 73 = some [.slice .full 0 []] := by kernel_rfl
@[go_sem] theorem Try.asize74 : aSize Try.prog 74 = some 1 := by kernel_rfl
@[go_sem] theorem Try.abytes74 : aBytes Try.prog 74 = some 24 := by kernel_rfl
@[go_sem] theorem Try.aagg74 : aAgg Try.prog 74 = some false := by kernel_rfl
@[go_sem] theorem Try.aelem74 : aElem Try.prog 74 = some 9 := by kernel_rfl
@[go_sem] theorem Try.azero74 : aZero Try.prog 74 = some [.slice .full 0 []] := by kernel_rfl
@[go_sem] theorem Try.asize75 : aSize Try.prog 75 = some 6 := by kernel_rfl
@[go_sem] theorem Try.abytes75 : aBytes Try.prog 75 = some 88 := by kernel_rfl
@[go_sem] theorem Try.aagg75 : aAgg Try.prog 75 = some true := by kernel_rfl
@[go_sem] theorem Try.afield75_0 : aField Try.prog 75 0 = some (0, 1) := by kernel_rfl
@[go_sem] theorem Try.afield75_1 : aField Try.prog 75 1 = some (1, 1) := by kernel_rfl
@[go_sem] theorem Try.afield75_2 : aField Try.prog 75 2 = some (2, 1) := by kernel_rfl
@[go_sem] theorem Try.afield75_3 : aField Try.prog 75 3 = some (3, 1) := by kernel_rfl
@[go_sem] theorem Try.afield75_4 : aField Try.prog 75 4 = some (4, 1) := by kernel_rfl
@[go_sem] theorem Try.afield75_5 : aField Try.prog 75 5 = some (5, 1) := by kernel_rfl
@[go_sem] theorem Try.afieldsok75 : aFieldsOk Try.prog 75 = true := by kernel_rfl
@[go_sem] theorem Try.azero75 : aZero Try.prog 75 = some [.sc (.int .i64 (0)), .sc (.string ⟨#[]⟩), .sc (.int .i64 (0)), .sc (.int .i64 (0)), .slice .full 0 [], .slice .full 0 []] := by kernel_rfl
@[go_sem] theorem Try.asize76 : aSize Try.prog 76 = some 6 := by kernel_rfl
@[go_sem] theorem Try.abytes76 : aBytes Try.prog 76 = some 88 := by kernel_rfl
@[go_sem] theorem Try.aagg76 : aAgg Try.prog 76 = some true := by kernel_rfl
@[go_sem] theorem Try.afield76_0 : aField Try.prog 76 0 = some (0, 1) := by kernel_rfl
@[go_sem] theorem Try.afield76_1 : aField Try.prog 76 1 = some (1, 1) := by kernel_rfl
@[go_sem] theorem Try.afield76_2 : aField Try.prog 76 2 = some (2, 1) := by kernel_rfl
@[go_sem] theorem Try.afield76_3 : aField Try.prog 76 3 = some (3, 1) := by kernel_rfl
@[go_sem] theorem Try.afield76_4 : aField Try.prog 76 4 = some (4, 1) := by kernel_rfl
@[go_sem] theorem Try.afield76_5 : aField Try.prog 76 5 = some (5, 1) := by kernel_rfl
@[go_sem] theorem Try.afieldsok76 : aFieldsOk Try.prog 76 = true := by kernel_rfl
@[go_sem] theorem Try.azero76 : aZero Try.prog 76 = some [.sc (.int .i64 (0)), .sc (.string ⟨#[]⟩), .sc (.int .i64 (0)), .sc (.int .i64 (0)), .slice .full 0 [], .slice .full 0 []] := by kernel_rfl
@[go_sem] theorem Try.asize77 : aSize Try.prog 77 = some 1 := by kernel_rfl
@[go_sem] theorem Try.abytes77 : aBytes Try.prog 77 = some 8 := by kernel_rfl
@[go_sem] theorem Try.aagg77 : aAgg Try.prog 77 = some false := by kernel_rfl
@[go_sem] theorem Try.azero77 : aZero Try.prog 77 = some [.sc .nilFunc] := by kernel_rfl
@[go_sem] theorem Try.asize78 : aSize Try.prog 78 = some 1 := by kernel_rfl
@[go_sem] theorem Try.abytes78 : aBytes Try.prog 78 = some 24 := by kernel_rfl
@[go_sem] theorem Try.aagg78 : aAgg Try.prog 78 = some false := by kernel_rfl
@[go_sem] theorem Try.aelem78 : aElem Try.prog 78 = some 137 := by kernel_rfl
@[go_sem] theorem Try.azero78 : aZero Try.prog 78 = some [.slice .full 0 []] := by kernel_rfl
@[go_sem] theorem Try.asize79 : aSize Try.prog 79 = some 1 := by kernel_rfl
@[go_sem] theorem Try.abytes79 : aBytes Try.prog 79 = some 24 := by kernel_rfl
@[go_sem] theorem Try.aagg79 : aAgg Try.prog 79 = some false := by kernel_rfl
@[go_sem] theorem Try.aelem79 : aElem Try.prog 79 = some 81 := by kernel_rfl
@[go_sem] theorem Try.azero79 : aZero Try.prog 79 = some [.slice .full 0 []] := by kernel_rfl
@[go_sem] theorem Try.asize80 : aSize Try.prog 80 = some 4 := by kernel_rfl
@[go_sem] theorem Try.abytes80 : aBytes Try.prog 80 = some 80 := by kernel_rfl
@[go_sem] theorem Try.aagg80 : aAgg Try.prog 80 = some true := by kernel_rfl
@[go_sem] theorem Try.afield80_0 : aField Try.prog 80 0 = some (0, 1) := by kernel_rfl
@[go_sem] theorem Try.afield80_1 : aField Try.prog 80 1 = some (1, 1) := by kernel_rfl
@[go_sem] theorem Try.afield80_2 : aField Try.prog 80 2 = some (2, 1) := by kernel_rfl
@[go_sem] theorem Try.afield80_3 : aField Try.prog 80 3 = some (3, 1) := by kernel_rfl
@[go_sem] theorem Try.afieldsok80 : aFieldsOk Try.prog 80 = true := by kernel_rfl
@[go_sem] theorem Try.azero80 : aZero Try.prog 80 = some [.sc (.int .i64 (0)), .slice .full 0 [], .slice .full 0 [], .slice .full 0 []] := by kernel_rfl
@[go_sem] theorem Try.asize81 : aSize Try.prog 81 = some 4 := by kernel_rfl
@[go_sem] theorem Try.abytes81 : aBytes Try.prog 81 = some 80 := by kernel_rfl
@[go_sem] theorem Try.aagg81 : aAgg Try.prog 81 = some true := by kernel_rfl
@[go_sem] theorem Try.afield81_0 : aField Try.prog 81 0 = some (0, 1) := by kernel_rfl
@[go_sem] theorem Try.afield81_1 : aField Try.prog 81 1 = some (1, 1) := by kernel_rfl
@[go_sem] theorem Try.afield81_2 : aField Try.prog 81 2 = some (2, 1) := by kernel_rfl
@[go_sem] theorem Try.afield81_3 : aField Try.prog 81 3 = some (3, 1) := by kernel_rfl
@[go_sem] theorem Try.afieldsok81 : aFieldsOk Try.prog 81 = true := by kernel_rfl
@[go_sem] theorem Try.azero81 : aZero Try.prog 81 = some [.sc (.int .i64 (0)), .slice .full 0 [], .slice .full 0 [], .slice .full 0 []] := by kernel_rfl
@[go_sem] theorem Try.asize82 : aSize Try.prog 82 = some 1 := by kernel_rfl
@[go_sem] theorem Try.abytes82 : aBytes Try.prog 82 = some 0 := by kernel_rfl
@[go_sem] theorem Try.aagg82 : aAgg Try.prog 82 = some false := by kernel_rfl
@[go_sem] theorem Try.asize83 : aSize Try.prog 83 = some 1 := by kernel_rfl
@[go_sem] theorem Try.abytes83 : aBytes Try.prog 83 = some 8 := by kernel_rfl
@[go_sem] theorem Try.aagg83 : aAgg Try.prog 83 = some false := by kernel_rfl
@[go_sem] theorem Try.azero83 : aZero Try.prog 83 = some [.sc .nilFunc] := by kernel_rfl
@[go_sem] theorem Try.asize84 : aSize Try.prog 84 = some 1 := by kernel_rfl
@[go_sem] theorem Try.abytes84 : aBytes Try.prog 84 = some 8 := by kernel_rfl
@[go_sem] theorem Try.aagg84 : aAgg Try.prog 84 = some false := by kernel_rfl
@[go_sem] theorem Try.azero84 : aZero Try.prog 84 = some [.sc .nilFunc] := by kernel_rfl
@[go_sem] theorem Try.asize85 : aSize Try.prog 85 = some 1 := by kernel_rfl
@[go_sem] theorem Try.abytes85 : aBytes Try.prog 85 = some 8 := by kernel_rfl
@[go_sem] theorem Try.aagg85 : aAgg Try.prog 85 = some false := by kernel_rfl
@[go_sem] theorem Try.azero85 : aZero Try.prog 85 = some [.sc .nilFunc] := by kernel_rfl
@[go_sem] theorem Try.asize86 : aSize Try.prog 86 = some 1 := by kernel_rfl
@[go_sem] theorem Try.abytes86 : aBytes Try.prog 86 = some 8 := by kernel_rfl
@[go_sem] theorem Try.aagg86 : aAgg Try.prog 86 = some false := by kernel_rfl
@[go_sem] theorem Try.azero86 : aZero Try.prog 86 = some [.sc .nilFunc] := by kernel_rfl
@[go_sem] theorem Try.asize87 : aSize Try.prog 87 = some 1 := by kernel_rfl
@[go_sem] theorem Try.abytes87 : aBytes Try.prog 87 = some 8 := by kernel_rfl
@[go_sem] theorem Try.aagg87 : aAgg Try.prog 87 = some false := by kernel_rfl
@[go_sem] theorem Try.aisptr87 : aIsPtr Try.prog 87 = true := by kernel_rfl
@[go_sem] theorem Try.azero87 : aZero Try.prog 87 = some [.sc (.pointer none)] := by kernel_rfl
@[go_sem] theorem Try.asize88 : aSize Try.prog 88 = some 1 := by kernel_rfl
@[go_sem] theorem Try.abytes88 : aBytes Try.prog 88 = some 24 := by kernel_rfl
@[go_sem] theorem Try.aagg88 : aAgg Try.prog 88 = some false := by kernel_rfl
@[go_sem] theorem Try.aelem88 : aElem Try.prog 88 = some 106 := by kernel_rfl
@[go_sem] theorem Try.azero88 : aZero Try.prog 88 = some [.slice .full 0 []] := by kernel_rfl
@[go_sem] theorem Try.asize89 : aSize Try.prog 89 = some 8 := by kernel_rfl
@[go_sem] theorem Try.abytes89 : aBytes Try.prog 89 = some 64 := by kernel_rfl
@[go_sem] theorem Try.aagg89 : aAgg Try.prog 89 = some true := by kernel_rfl
@[go_sem] theorem Try.aarr89 : aArr Try.prog 89 = some (8, 1) := by kernel_rfl
@[go_sem] theorem Try.aarrO89 : aArr1 Try.prog 89 = some 8 := by kernel_rfl
@[go_sem] theorem Try.azero89 : aZero Try.prog 89 = some [.sc (.pointer none), .sc (.pointer none), .sc (.pointer none), .sc (.pointer none), .sc (.pointer none), .sc (.pointer none), .sc (.pointer none), .sc (.pointer none)] := by kernel_rfl
@[go_sem] theorem Try.asize90 : aSize Try.prog 90 = some 10 := by kernel_rfl
@[go_sem] theorem Try.abytes90 : aBytes Try.prog 90 = some 96 := by kernel_rfl
@[go_sem] theorem Try.aagg90 : aAgg Try.prog 90 = some true := by kernel_rfl
@[go_sem] theorem Try.afield90_0 : aField Try.prog 90 0 = some (0, 1) := by kernel_rfl
@[go_sem] theorem Try.afield90_1 : aField Try.prog 90 1 = some (1, 1) := by kernel_rfl
@[go_sem] theorem Try.afield90_2 : aField Try.prog 90 2 = some (2, 8) := by kernel_rfl
@[go_sem] theorem Try.afieldsok90 : aFieldsOk Try.prog 90 = true := by kernel_rfl
@[go_sem] theorem Try.azero90 : aZero Try.prog 90 = some [.sc (.int .i64 (0)), .slice .full 0 [], .sc (.pointer none), .sc (.pointer none), .sc (.pointer none), .sc (.pointer none), .sc (.pointer none), .sc (.pointer none), .sc (.pointer none), .sc (.pointer none)] := by kernel_rfl
@[go_sem] theorem Try.asize91 : aSize Try.prog 91 = some 10 := by kernel_rfl
@[go_sem] theorem Try.abytes91 : aBytes Try.prog 91 = some 96 := by kernel_rfl
@[go_sem] theorem Try.aagg91 : aAgg Try.prog 91 = some true := by kernel_rfl
@[go_sem] theorem Try.afield91_0 : aField Try.prog 91 0 = some (0, 1) := by kernel_rfl
@[go_sem] theorem Try.afield91_1 : aField Try.prog 91 1 = some (1, 1) := by kernel_rfl
@[go_sem] theorem Try.afield91_2 : aField Try.prog 91 2 = some (2, 8) := by kernel_rfl
@[go_sem] theorem Try.afieldsok91 : aFieldsOk Try.prog 91 = true := by kernel_rfl
@[go_sem] theorem Try.azero91 : aZero Try.prog 91 = some [.sc (.int .i64 (0)), .slice .full 0 [], .sc (.pointer none), .sc (.pointer none), .sc (.pointer none), .sc (.pointer none), .sc (.pointer none), .sc (.pointer none), .sc (.pointer none), .sc (.pointer none)] := by kernel_rfl
@[go_sem] theorem Try.asize92 : aSize Try.prog 92 = some 1 := by kernel_rfl
@[go_sem] theorem Try.abytes92 : aBytes Try.prog 92 = some 8 := by kernel_rfl
@[go_sem] theorem Try.aagg92 : aAgg Try.prog 92 = some false := by kernel_rfl
theorem Try.amap92 : aMap Try.prog 92 = some (3, .int .i64, 3) := by kernel_rfl
theorem Try.zeroSV3 : zeroSV Try.prog 3 = some (.sc (.int .i64 (0))) := by kernel_rfl
@[go_sem] theorem Try.azero92 : aZero Try.prog 92 = some [.sc (.map none)] := by kernel_rfl
@[go_sem] theorem Try.asize93 : aSize Try.prog 93 = some 1 := by kernel_rfl
@[go_sem] theorem Try.abytes93 : aBytes Try.prog 93 = some 24 := by kernel_rfl
@[go_sem] theorem Try.aagg93 : aAgg Try.prog 93 = some false := by kernel_rfl
@[go_sem] theorem Try.aelem93 : aElem Try.prog 93 = some 92 := by kernel_rfl
@[go_sem] theorem Try.azero93 : aZero Try.prog 93 = some [.slice .full 0 []] := by kernel_rfl
@[go_sem] theorem Try.asize94 : aSize Try.prog 94 = some 7 := by kernel_rfl
@[go_sem] theorem Try.abytes94 : aBytes Try.prog 94 = some 96 := by kernel_rfl
@[go_sem] theorem Try.aagg94 : aAgg Try.prog 94 = some true := by kernel_rfl
@[go_sem] theorem Try.afield94_0 : aField Try.prog 94 0 = some (0, 1) := by kernel_rfl
@[go_sem] theorem Try.afield94_1 : aField Try.prog 94 1 = some (1, 1) := by kernel_rfl
@[go_sem] theorem Try.afield94_2 : aField Try.prog 94 2 = some (2, 1) := by kernel_rfl
@[go_sem] theorem Try.afield94_3 : aField Try.prog 94 3 = some (3, 1) := by kernel_rfl
@[go_sem] theorem Try.afield94_4 : aField Try.prog 94 4 = some (4, 1) := by kernel_rfl
@[go_sem] theorem Try.afield94_5 : aField Try.prog 94 5 = some (5, 1) := by kernel_rfl
@[go_sem] theorem Try.afield94_6 : aField Try.prog 94 6 = some (6, 1) := by kernel_rfl
@[go_sem] theorem Try.afieldsok94 : aFieldsOk Try.prog 94 = true := by kernel_rfl
@[go_sem] theorem Try.azero94 : aZero Try.prog 94 = some [.sc (.int .i64 (0)), .sc (.int .i64 (0)), .slice .full 0 [], .slice .full 0 [], .sc (.bool false), .sc (.bool false), .slice .full 0 []] := by kernel_rfl
@[go_sem] theorem Try.asize95 : aSize Try.prog 95 = some 7 := by kernel_rfl
@[go_sem] theorem Try.abytes95 : aBytes Try.prog 95 = some 96 := by kernel_rfl
@[go_sem] theorem Try.aagg95 : aAgg Try.prog 95 = some true := by kernel_rfl
@[go_sem] theorem Try.afield95_0 : aField Try.prog 95 0 = some (0, 1) := by kernel_rfl
@[go_sem] theorem Try.afield95_1 : aField Try.prog 95 1 = some (1, 1) := by kernel_rfl
@[go_sem] theorem Try.afield95_2 : aField Try.prog 95 2 = some (2, 1) := by kernel_rfl
@[go_sem] theorem Try.afield95_3 : aField Try.prog 95 3 = some (3, 1) := by kernel_rfl
@[go_sem] theorem Try.afield95_4 : aField Try.prog 95 4 = some (4, 1) := by kernel_rfl
@[go_sem] theorem Try.afield95_5 : aField Try.prog 95 5 = some (5, 1) := by kernel_rfl
@[go_sem] theorem Try.afield95_6 : aField Try.prog 95 6 = some (6, 1) := by kernel_rfl
@[go_sem] theorem Try.afieldsok95 : aFieldsOk Try.prog 95 = true := by kernel_rfl
@[go_sem] theorem Try.azero95 : aZero Try.prog 95 = some [.sc (.int .i64 (0)), .sc (.int .i64 (0)), .slice .full 0 [], .slice .full 0 [], .sc (.bool false), .sc (.bool false), .slice .full 0 []] := by kernel_rfl
@[go_sem] theorem Try.asize96 : aSize Try.prog 96 = some 1 := by kernel_rfl
@[go_sem] theorem Try.abytes96 : aBytes Try.prog 96 = some 8 := by kernel_rfl
@[go_sem] theorem Try.aagg96 : aAgg Try.prog 96 = some false := by kernel_rfl
@[go_sem] theorem Try.azero96 : aZero Try.prog 96 = some [.sc .nilFunc] := by kernel_rfl
@[go_sem] theorem Try.asize97 : aSize Try.prog 97 = some 1 := by kernel_rfl
@[go_sem] theorem Try.abytes97 : aBytes Try.prog 97 = some 8 := by kernel_rfl
@[go_sem] theorem Try.aagg97 : aAgg Try.prog 97 = some false := by kernel_rfl
@[go_sem] theorem Try.azero97 : aZero Try.prog 97 = some [.sc .nilFunc] := by kernel_rfl
@[go_sem] theorem Try.asize98 : aSize Try.prog 98 = some 1 := by kernel_rfl
@[go_sem] theorem Try.abytes98 : aBytes Try.prog 98 = some 8 := by kernel_rfl
@[go_sem] theorem Try.aagg98 : aAgg Try.prog 98 = some false := by kernel_rfl
@[go_sem] theorem Try.azero98 : aZero Try.prog 98 = some [.sc .nilFunc] := by kernel_rfl
@[go_sem] theorem Try.asize99 : aSize Try.prog 99 = some 1 := by kernel_rfl
@[go_sem] theorem Try.abytes99 : aBytes Try.prog 99 = some 8 := by kernel_rfl
@[go_sem] theorem Try.aagg99 : aAgg Try.prog 99 = some false := by kernel_rfl
@[go_sem] theorem Try.azero99 : aZero Try.prog 99 = some [.sc .nilFunc] := by kernel_rfl
@[go_sem] theorem Try.asize100 : aSize Try.prog 100 = some 1 := by kernel_rfl
@[go_sem] theorem Try.abytes100 : aBytes Try.prog 100 = some 8 := by kernel_rfl
@[go_sem] theorem Try.aagg100 : aAgg Try.prog 100 = some false := by kernel_rfl
@[go_sem] theorem Try.azero100 : aZero Try.prog 100 = some [.sc .nilFunc] := by kernel_rfl
@[go_sem] theorem Try.asize101 : aSize Try.prog 101 = some 1 := by kernel_rfl
@[go_sem] theorem Try.abytes101 : aBytes Try.prog 101 = some 8 := by kernel_rfl
@[go_sem] theorem Try.aagg101 : aAgg Try.prog 101 = some false := by kernel_rfl
@[go_sem] theorem Try.azero101 : aZero Try.prog 101 = some [.sc .nilFunc] := by kernel_rfl
@[go_sem] theorem Try.asize102 : aSize Try.prog 102 = some 1 := by kernel_rfl
@[go_sem] theorem Try.abytes102 : aBytes Try.prog 102 = some 0 := by kernel_rfl
@[go_sem] theorem Try.aagg102 : aAgg Try.prog 102 = some false := by kernel_rfl
@[go_sem] theorem Try.asize103 : aSize Try.prog 103 = some 1 := by kernel_rfl
@[go_sem] theorem Try.abytes103 : aBytes Try.prog 103 = some 8 := by kernel_rfl
@[go_sem] theorem Try.aagg103 : aAgg Try.prog 103 = some false := by kernel_rfl
@[go_sem] theorem Try.azero103 : aZero Try.prog 103 = some [.sc .nilFunc] := by kernel_rfl
@[go_sem] theorem Try.asize104 : aSize Try.prog 104 = some 1 := by kernel_rfl
@[go_sem] theorem Try.abytes104 : aBytes Try.prog 104 = some 8 := by kernel_rfl
@[go_sem] theorem Try.aagg104 : aAgg Try.prog 104 = some false := by kernel_rfl
@[go_sem] theorem Try.azero104 : aZero Try.prog 104 = some [.sc .nilFunc] := by kernel_rfl
@[go_sem] theorem Try.asize105 : aSize Try.prog 105 = some 3 := by kernel_rfl
@[go_sem] theorem Try.abytes105 : aBytes Try.prog 105 = some 24 := by kernel_rfl
@[go_sem] theorem Try.aagg105 : aAgg Try.prog 105 = some true := by kernel_rfl
@[go_sem] theorem Try.afield105_0 : aField Try.prog 105 0 = some (0, 1) := by kernel_rfl
@[go_sem] theorem Try.afield105_1 : aField Try.prog 105 1 = some (1, 1) := by kernel_rfl
@[go_sem] theorem Try.afield105_2 : aField Try.prog 105 2 = some (2, 1) := by kernel_rfl
@[go_sem] theorem Try.afieldsok105 : aFieldsOk Try.prog 105 = true := by kernel_rfl
@[go_sem] theorem Try.azero105 : aZero Try.prog 105 = some [.sc (.int .i64 (0)), .sc (.int .i64 (0)), .sc (.int .i64 (0))] := by kernel_rfl
@[go_sem] theorem Try.asize106 : aSize Try.prog 106 = some 3 := by kernel_rfl
@[go_sem] theorem Try.abytes106 : aBytes Try.prog 106 = some 24 := by kernel_rfl
@[go_sem] theorem Try.aagg106 : aAgg Try.prog 106 = some true := by kernel_rfl
@[go_sem] theorem Try.afield106_0 : aField Try.prog 106 0 = some (0, 1) := by kernel_rfl
@[go_sem] theorem Try.afield106_1 : aField Try.prog 106 1 = some (1, 1) := by kernel_rfl
@[go_sem] theorem Try.afield106_2 : aField Try.prog 106 2 = some (2, 1) := by kernel_rfl
@[go_sem] theorem Try.afieldsok106 : aFieldsOk Try.prog 106 = true := by kernel_rfl
@[go_sem] theorem Try.azero106 : aZero Try.prog 106 = some [.sc (.int .i64 (0)), .sc (.int .i64 (0)), .sc (.int .i64 (0))] := by kernel_rfl
@[go_sem] theorem Try.asize107 : aSize Try.prog 107 = some 1 := by kernel_rfl
@[go_sem] theorem Try.abytes107 : aBytes Try.prog 107 = some 8 := by kernel_rfl
@[go_sem] theorem Try.aagg107 : aAgg Try.prog 107 = some false := by kernel_rfl
@[go_sem] theorem Try.azero107 : aZero Try.prog 107 = some [.sc .nilFunc] := by kernel_rfl
@[go_sem] theorem Try.asize108 : aSize Try.prog 108 = some 1 := by kernel_rfl
@[go_sem] theorem Try.abytes108 : aBytes Try.prog 108 = some 8 := by kernel_rfl
@[go_sem] theorem Try.aagg108 : aAgg Try.prog 108 = some false := by kernel_rfl
@[go_sem] theorem Try.azero108 : aZero Try.prog 108 = some [.sc .nilFunc] := by kernel_rfl
@[go_sem] theorem Try.asize109 : aSize Try.prog 109 = some 1 := by kernel_rfl
@[go_sem] theorem Try.abytes109 : aBytes Try.prog 109 = some 8 := by kernel_rfl
@[go_sem] theorem Try.aagg109 : aAgg Try.prog 109 = some false := by kernel_rfl
@[go_sem] theorem Try.azero109 : aZero Try.prog 109 = some [.sc .nilFunc] := by kernel_rfl
@[go_sem] theorem Try.asize110 : aSize Try.prog 110 = some 1 := by kernel_rfl
@[go_sem] theorem Try.abytes110 : aBytes Try.prog 110 = some 8 := by kernel_rfl
@[go_sem] theorem Try.aagg110 : aAgg Try.prog 110 = some false := by kernel_rfl
@[go_sem] theorem Try.azero110 : aZero Try.prog 110 = some [.sc .nilFunc] := by kernel_rfl
@[go_sem] theorem Try.asize111 : aSize Try.prog 111 = some 1 := by kernel_rfl
@[go_sem] theorem Try.abytes111 : aBytes Try.prog 111 = some 8 := by kernel_rfl
@[go_sem] theorem Try.aagg111 : aAgg Try.prog 111 = some false := by kernel_rfl
@[go_sem] theorem Try.azero111 : aZero Try.prog 111 = some [.sc .nilFunc] := by kernel_rfl
@[go_sem] theorem Try.asize112 : aSize Try.prog 112 = some 5 := by kernel_rfl
@[go_sem] theorem Try.abytes112 : aBytes Try.prog 112 = some 56 := by kernel_rfl
@[go_sem] theorem Try.aagg112 : aAgg Try.prog 112 = some true := by kernel_rfl
@[go_sem] theorem Try.afield112_0 : aField Try.prog 112 0 = some (0, 1) := by kernel_rfl
@[go_sem] theorem Try.afield112_1 : aField Try.prog 112 1 = some (1, 1) := by kernel_rfl
@[go_sem] theorem Try.afield112_2 : aField Try.prog 112 2 = some (2, 1) := by kernel_rfl
@[go_sem] theorem Try.afield112_3 : aField Try.prog 112 3 = some (3, 1) := by kernel_rfl
@[go_sem] theorem Try.afield112_4 : aField Try.prog 112 4 = some (4, 1) := by kernel_rfl
@[go_sem] theorem Try.afieldsok112 : aFieldsOk Try.prog 112 = true := by kernel_rfl
@[go_sem] theorem Try.azero112 : aZero Try.prog 112 = some [.sc (.string ⟨#[]⟩), .sc (.string ⟨#[]⟩), .sc (.int .i64 (0)), .sc (.int .i64 (0)), .sc (.int .i64 (0))] := by kernel_rfl
@[go_sem] theorem Try.asize113 : aSize Try.prog 113 = some 5 := by kernel_rfl
@[go_sem] theorem Try.abytes113 : aBytes Try.prog 113 = some 56 := by kernel_rfl
@[go_sem] theorem Try.aagg113 : aAgg Try.prog 113 = some true := by kernel_rfl
@[go_sem] theorem Try.afield113_0 : aField Try.prog 113 0 = some (0, 1) := by kernel_rfl
@[go_sem] theorem Try.afield113_1 : aField Try.prog 113 1 = some (1, 1) := by kernel_rfl
@[go_sem] theorem Try.afield113_2 : aField Try.prog 113 2 = some (2, 1) := by kernel_rfl
@[go_sem] theorem Try.afield113_3 : aField Try.prog 113 3 = some (3, 1) := by kernel_rfl
@[go_sem] theorem Try.afield113_4 : aField Try.prog 113 4 = some (4, 1) := by kernel_rfl
@[go_sem] theorem Try.afieldsok113 : aFieldsOk Try.prog 113 = true := by kernel_rfl
@[go_sem] theorem Try.azero113 : aZero Try.prog 113 = some [.sc (.string ⟨#[]⟩), .sc (.string ⟨#[]⟩), .sc (.int .i64 (0)), .sc (.int .i64 (0)), .sc (.int .i64 (0))] := by kernel_rfl
@[go_sem] theorem Try.asize114 : aSize Try.prog 114 = some 1 := by kernel_rfl
@[go_sem] theorem Try.abytes114 : aBytes Try.prog 114 = some 8 := by kernel_rfl
@[go_sem] theorem Try.aagg114 : aAgg Try.prog 114 = some false := by kernel_rfl
@[go_sem] theorem Try.azero114 : aZero Try.prog 114 = some [.sc .nilFunc] := by kernel_rfl
@[go_sem] theorem Try.asize115 : aSize Try.prog 115 = some 1 := by kernel_rfl
@[go_sem] theorem Try.abytes115 : aBytes Try.prog 115 = some 24 := by kernel_rfl
@[go_sem] theorem Try.aagg115 : aAgg Try.prog 115 = some false := by kernel_rfl
@[go_sem] theorem Try.aelem115 : aElem Try.prog 115 = some 120 := by kernel_rfl
@[go_sem] theorem Try.azero115 : aZero Try.prog 115 = some [.slice .full 0 []] := by kernel_rfl
@[go_sem] theorem Try.asize116 : aSize Try.prog 116 = some 7 := by kernel_rfl
@[go_sem] theorem Try.abytes116 : aBytes Try.prog 116 = some 112 := by kernel_rfl
@[go_sem] theorem Try.aagg116 : aAgg Try.prog 116 = some true := by kernel_rfl
@[go_sem] theorem Try.afield116_0 : aField Try.prog 116 0 = some (0, 6) := by kernel_rfl
@[go_sem] theorem Try.afield116_1 : aField Try.prog 116 1 = some (6, 1) := by kernel_rfl
@[go_sem] theorem Try.afieldsok116 : aFieldsOk Try.prog 116 = true := by kernel_rfl
@[go_sem] theorem Try.azero116 : aZero Try.prog 116 = some [.sc (.int .i64 (0)), .sc (.string ⟨#[]⟩), .sc (.int .i64 (0)), .sc (.int .i64 (0)), .slice .full 0 [], .slice .full 0 [], .slice .full 0 []] := by kernel_rfl
@[go_sem] theorem Try.asize117 : aSize Try.prog 117 = some 7 := by kernel_rfl
@[go_sem] theorem Try.abytes117 : aBytes Try.prog 117 = some 112 := by kernel_rfl
@[go_sem] theorem Try.aagg117 : aAgg Try.prog 117 = some true := by kernel_rfl
@[go_sem] theorem Try.afield117_0 : aField Try.prog 117 0 = some (0, 6) := by kernel_rfl
@[go_sem] theorem Try.afield117_1 : aField Try.prog 117 1 = some (6, 1) := by kernel_rfl
@[go_sem] theorem Try.afieldsok117 : aFieldsOk Try.prog 117 = true := by kernel_rfl
@[go_sem] theorem Try.azero117 : aZero Try.prog 117 = some [.sc (.int .i64 (0)), .sc (.string ⟨#[]⟩), .sc (.int .i64 (0)), .sc (.int .i64 (0)), .slice .full 0 [], .slice .full 0 [], .slice .full 0 []] := by kernel_rfl
@[go_sem] theorem Try.asize118 : aSize Try.prog 118 = some 1 := by kernel_rfl
@[go_sem] theorem Try.abytes118 : aBytes Try.prog 118 = some 24 := by kernel_rfl
@[go_sem] theorem Try.aagg118 : aAgg Try.prog 118 = some false := by kernel_rfl
@[go_sem] theorem Try.aelem118 : aElem Try.prog 118 = some 117 := by kernel_rfl
@[go_sem] theorem Try.azero118 : aZero Try.prog 118 = some [.slice .full 0 []] := by kernel_rfl
@[go_sem] theorem Try.asize119 : aSize Try.prog 119 = some 2 := by kernel_rfl
@[go_sem] theorem Try.abytes119 : aBytes Try.prog 119 = some 32 := by kernel_rfl
@[go_sem] theorem Try.aagg119 : aAgg Try.prog 119 = some true := by kernel_rfl
@[go_sem] theorem Try.afield119_0 : aField Try.prog 119 0 = some (0, 1) := by kernel_rfl
@[go_sem] theorem Try.afield119_1 : aField Try.prog 119 1 = some (1, 1) := by kernel_rfl
@[go_sem] theorem Try.afieldsok119 : aFieldsOk Try.prog 119 = true := by kernel_rfl
@[go_sem] theorem Try.azero119 : aZero Try.prog 119 = some [.slice .full 0 [], .sc (.int .i64 (0))] := by kernel_rfl
@[go_sem] theorem Try.asize120 : aSize Try.prog 120 = some 2 := by kernel_rfl
@[go_sem] theorem Try.abytes120 : aBytes Try.prog 120 = some 32 := by kernel_rfl
@[go_sem] theorem Try.aagg120 : aAgg Try.prog 120 = some true := by kernel_rfl
@[go_sem] theorem Try.afield120_0 : aField Try.prog 120 0 = some (0, 1) := by kernel_rfl
@[go_sem] theorem Try.afield120_1 : aField Try.prog 120 1 = some (1, 1) := by kernel_rfl
@[go_sem] theorem Try.afieldsok120 : aFieldsOk Try.prog 120 = true := by kernel_rfl
@[go_sem] theorem Try.azero120 : aZero Try.prog 120 = some [.slice .full 0 [], .sc (.int .i64 (0))] := by kernel_rfl
@[go_sem] theorem Try.asize121 : aSize Try.prog 121 = some 1 := by kernel_rfl
@[go_sem] theorem Try.abytes121 : aBytes Try.prog 121 = some 8 := by kernel_rfl
@[go_sem] theorem Try.aagg121 : aAgg Try.prog 121 = some false := by kernel_rfl
@[go_sem] theorem Try.aisptr121 : aIsPtr Try.prog 121 = true := by kernel_rfl
@[go_sem] theorem Try.azero121 : aZero Try.prog 121 = some [.sc (.pointer none)] := by kernel_rfl
@[go_sem] theorem Try.asize122 : aSize Try.prog 122 = some 2 := by kernel_rfl
@[go_sem] theorem Try.abytes122 : aBytes Try.prog 122 = some 32 := by kernel_rfl
@[go_sem] theorem Try.aagg122 : aAgg Try.prog 122 = some true := by kernel_rfl
@[go_sem] theorem Try.afield122_0 : aField Try.prog 122 0 = some (0, 1) := by kernel_rfl
@[go_sem] theorem Try.afield122_1 : aField Try.prog 122 1 = some (1, 1) := by kernel_rfl
@[go_sem] theorem Try.afieldsok122 : aFieldsOk Try.prog 122 = true := by kernel_rfl
@[go_sem] theorem Try.azero122 : aZero Try.prog 122 = some [.slice .full 0 [], .sc (.int .i64 (0))] := by kernel_rfl
@[go_sem] theorem Try.asize123 : aSize Try.prog 123 = some 2 := by kernel_rfl
@[go_sem] theorem Try.abytes123 : aBytes Try.prog 123 = some 32 := by kernel_rfl
@[go_sem] theorem Try.aagg123 : aAgg Try.prog 123 = some true := by kernel_rfl
@[go_sem] theorem Try.afield123_0 : aField Try.prog 123 0 = some (0, 1) := by kernel_rfl
@[go_sem] theorem Try.afield123_1 : aField Try.prog 123 1 = some (1, 1) := by kernel_rfl
@[go_sem] theorem Try.afieldsok123 : aFieldsOk Try.prog 123 = true := by kernel_rfl
@[go_sem] theorem Try.azero123 : aZero Try.prog 123 = some [.slice .full 0 [], .sc (.int .i64 (0))] := by kernel_rfl
@[go_sem] theorem Try.asize124 : aSize Try.prog 124 = some 1 := by kernel_rfl
@[go_sem] theorem Try.abytes124 : aBytes Try.prog 124 = some 8 := by kernel_rfl
@[go_sem] theorem Try.aagg124 : aAgg Try.prog 124 = some false := by kernel_rfl
@[go_sem] theorem Try.azero124 : aZero Try.prog 124 = some [.sc .nilFunc] := by kernel_rfl
@[go_sem] theorem Try.asize125 : aSize Try.prog 125 = some 1 := by kernel_rfl
@[go_sem] theorem Try.abytes125 : aBytes Try.prog 125 = some 8 := by kernel_rfl
@[go_sem] theorem Try.aagg125 : aAgg Try.prog 125 = some false := by kernel_rfl
@[go_sem] theorem Try.azero125 : aZero Try.prog 125 = some [.sc .nilFunc] := by kernel_rfl
@[go_sem] theorem Try.asize126 : aSize Try.prog 126 = some 1 := by kernel_rfl
@[go_sem] theorem Try.abytes126 : aBytes Try.prog 126 = some 24 := by kernel_rfl
@[go_sem] theorem Try.aagg126 : aAgg Try.prog 126 = some false := by kernel_rfl
@[go_sem] theorem Try.aelem126 : aElem Try.prog 126 = some 131 := by kernel_rfl
@[go_sem] theorem Try.azero126 : aZero Try.prog 126 = some [.slice .full 0 []] := by kernel_rfl
@[go_sem] theorem Try.asize127 : aSize Try.prog 127 = some 7 := by kernel_rfl
@[go_sem] theorem Try.abytes127 : aBytes Try.prog 127 = some 112 := by kernel_rfl
@[go_sem] theorem Try.aagg127 : aAgg Try.prog 127 = some true := by kernel_rfl
@[go_sem] theorem Try.afield127_0 : aField Try.prog 127 0 = some (0, 6) := by kernel_rfl
@[go_sem] theorem Try.afield127_1 : aField Try.prog 127 1 = some (6, 1) := by kernel_rfl
@[go_sem] theorem Try.afieldsok127 : aFieldsOk Try.prog 127 = true := by kernel_rfl
@[go_sem] theorem Try.azero127 : aZero Try.prog 127 = some [.sc (.int .i64 (0)), .sc (.string ⟨#[]⟩), .sc (.int .i64 (0)), .sc (.int .i64 (0)), .slice .full 0 [], .slice .full 0 [], .slice .full 0 []] := by kernel_rfl
@[go_sem] theorem Try.asize128 : aSize Try.prog 128 = some 7 := by kernel_rfl
@[go_sem] theorem Try.abytes128 : aBytes Try.prog 128 = some 112 := by kernel_rfl
@[go_sem] theorem Try.aagg128 : aAgg Try.prog 128 = some true := by kernel_rfl
@[go_sem] theorem Try.afield128_0 : aField Try.prog 128 0 = some (0, 6) := by kernel_rfl
@[go_sem] theorem Try.afield128_1 : aField Try.prog 128 1 = some (6, 1) := by kernel_rfl
@[go_sem] theorem Try.afieldsok128 : aFieldsOk Try.prog 128 = true := by kernel_rfl
@[go_sem] theorem Try.azero128 : aZero Try.prog 128 = some [.sc (.int .i64 (0)), .sc (.string ⟨#[]⟩), .sc (.int .i64 (0)), .sc (.int .i64 (0)), .slice .full 0 [], .slice .full 0 [], .slice .full 0 []] := by kernel_rfl
@[go_sem] theorem Try.asize129 : aSize Try.prog 129 = some 1 := by kernel_rfl
@[go_sem] theorem Try.abytes129 : aBytes Try.prog 129 = some 24 := by kernel_rfl
@[go_sem] theorem Try.aagg129 : aAgg Try.prog 129 = some false := by kernel_rfl
@[go_sem] theorem Try.aelem129 : aElem Try.prog 129 = some 128 := by kernel_rfl
@[go_sem] theorem Try.azero129 : aZero Try.prog 129 = some [.slice .full 0 []] := by kernel_rfl
@[go_sem] theorem Try.asize130 : aSize Try.prog 130 = some 2 := by kernel_rfl
@[go_sem] theorem Try.abytes130 : aBytes Try.prog 130 = some 32 := by kernel_rfl
@[go_sem] theorem Try.aagg130 : aAgg Try.prog 130 = some true := by kernel_rfl
@[go_sem] theorem Try.afield130_0 : aField Try.prog 130 0 = some (0, 1) := by kernel_rfl
@[go_sem] theorem Try.afield130_1 : aField Try.prog 130 1 = some (1, 1) := by kernel_rfl
@[go_sem] theorem Try.afieldsok130 : aFieldsOk Try.prog 130 = true := by kernel_rfl
@[go_sem] theorem Try.azero130 : aZero Try.prog 130 = some [.slice .full 0 [], .sc (.int .i64 (0))] := by kernel_rfl
@[go_sem] theorem Try.asize131 : aSize Try.prog 131 = some 2 := by kernel_rfl
@[go_sem] theorem Try.abytes131 : aBytes Try.prog 131 = some 32 := by kernel_rfl
@[go_sem] theorem Try.aagg131 : aAgg Try.prog 131 = some true := by kernel_rfl
@[go_sem] theorem Try.afield131_0 : aField Try.prog 131 0 = some (0, 1) := by kernel_rfl
@[go_sem] theorem Try.afield131_1 : aField Try.prog 131 1 = some (1, 1) := by kernel_rfl
@[go_sem] theorem Try.afieldsok131 : aFieldsOk Try.prog 131 = true := by kernel_rfl
@[go_sem] theorem Try.azero131 : aZero Try.prog 131 = some [.slice .full 0 [], .sc (.int .i64 (0))] := by kernel_rfl
@[go_sem] theorem Try.asize132 : aSize Try.prog 132 = some 1 := by kernel_rfl
@[go_sem] theorem Try.abytes132 : aBytes Try.prog 132 = some 8 := by kernel_rfl
@[go_sem] theorem Try.aagg132 : aAgg Try.prog 132 = some false := by kernel_rfl
@[go_sem] theorem Try.aisptr132 : aIsPtr Try.prog 132 = true := by kernel_rfl
@[go_sem] theorem Try.azero132 : aZero Try.prog 132 = some [.sc (.pointer none)] := by kernel_rfl
@[go_sem] theorem Try.asize133 : aSize Try.prog 133 = some 2 := by kernel_rfl
@[go_sem] theorem Try.abytes133 : aBytes Try.prog 133 = some 32 := by kernel_rfl
@[go_sem] theorem Try.aagg133 : aAgg Try.prog 133 = some true := by kernel_rfl
@[go_sem] theorem Try.afield133_0 : aField Try.prog 133 0 = some (0, 1) := by kernel_rfl
@[go_sem] theorem Try.afield133_1 : aField Try.prog 133 1 = some (1, 1) := by kernel_rfl
@[go_sem] theorem Try.afieldsok133 : aFieldsOk Try.prog 133 = true := by kernel_rfl
@[go_sem] theorem Try.azero133 : aZero Try.prog 133 = some [.slice .full 0 [], .sc (.int .i64 (0))] := by kernel_rfl
@[go_sem] theorem Try.asize134 : aSize Try.prog 134 = some 2 := by kernel_rfl
@[go_sem] theorem Try.abytes134 : aBytes Try.prog 134 = some 32 := by kernel_rfl
@[go_sem] theorem Try.aagg134 : aAgg Try.prog 134 = some true := by kernel_rfl
@[go_sem] theorem Try.afield134_0 : aField Try.prog 134 0 = some (0, 1) := by kernel_rfl
@[go_sem] theorem Try.afield134_1 : aField Try.prog 134 1 = some (1, 1) := by kernel_rfl
@[go_sem] theorem Try.afieldsok134 : aFieldsOk Try.prog 134 = true := by kernel_rfl
@[go_sem] theorem Try.azero134 : aZero Try.prog 134 = some [.slice .full 0 [], .sc (.int .i64 (0))] := by kernel_rfl
@[go_sem] theorem Try.asize135 : aSize Try.prog 135 = some 1 := by kernel_rfl
@[go_sem] theorem Try.abytes135 : aBytes Try.prog 135 = some 8 := by kernel_rfl
@[go_sem] theorem Try.aagg135 : aAgg Try.prog 135 = some false := by kernel_rfl
@[go_sem] theorem Try.azero135 : aZero Try.prog 135 = some [.sc .nilFunc] := by kernel_rfl
@[go_sem] theorem Try.asize136 : aSize Try.prog 136 = some 6 := by kernel_rfl
@[go_sem] theorem Try.abytes136 : aBytes Try.prog 136 = some 104 := by kernel_rfl
@[go_sem] theorem Try.aagg136 : aAgg Try.prog 136 = some true := by kernel_rfl
@[go_sem] theorem Try.afield136_0 : aField Try.prog 136 0 = some (0, 1) := by kernel_rfl
@[go_sem] theorem Try.afield136_1 : aField Try.prog 136 1 = some (1, 1) := by kernel_rfl
@[go_sem] theorem Try.afield136_2 : aField Try.prog 136 2 = some (2, 4) := by kernel_rfl
@[go_sem] theorem Try.afieldsok136 : aFieldsOk Try.prog 136 = true := by kernel_rfl
@[go_sem] theorem Try.azero136 : aZero Try.prog 136 = some [.sc (.string ⟨#[]⟩), .sc (.int .i64 (0)), .sc (.int .i64 (0)), .slice .full 0 [], .slice .full 0 [], .slice .full 0 []] := by kernel_rfl
@[go_sem] theorem Try.asize137 : aSize Try.prog 137 = some 6 := by kernel_rfl
@[go_sem] theorem Try.abytes137 : aBytes Try.prog 137 = some 104 := by kernel_rfl
@[go_sem] theorem Try.aagg137 : aAgg Try.prog 137 = some true := by kernel_rfl
@[go_sem] theorem Try.afield137_0 : aField Try.prog 137 0 = some (0, 1) := by kernel_rfl
@[go_sem] theorem Try.afield137_1 : aField Try.prog 137 1 = some (1, 1) := by kernel_rfl
@[go_sem] theorem Try.afield137_2 : aField Try.prog 137 2 = some (2, 4) := by kernel_rfl
@[go_sem] theorem Try.afieldsok137 : aFieldsOk Try.prog 137 = true := by kernel_rfl
@[go_sem] theorem Try.azero137 : aZero Try.prog 137 = some [.sc (.string ⟨#[]⟩), .sc (.int .i64 (0)), .sc (.int .i64 (0)), .slice .full 0 [], .slice .full 0 [], .slice .full 0 []] := by kernel_rfl
@[go_sem] theorem Try.asize138 : aSize Try.prog 138 = some 1 := by kernel_rfl
@[go_sem] theorem Try.abytes138 : aBytes Try.prog 138 = some 24 := by kernel_rfl
@[go_sem] theorem Try.aagg138 : aAgg Try.prog 138 = some false := by kernel_rfl
@[go_sem] theorem Try.aelem138 : aElem Try.prog 138 = some 141 := by kernel_rfl
@[go_sem] theorem Try.azero138 : aZero Try.prog 138 = some [.slice .full 0 []] := by kernel_rfl
@[go_sem] theorem Try.asize139 : aSize Try.prog 139 = some 1 := by kernel_rfl
@[go_sem] theorem Try.abytes139 : aBytes Try.prog 139 = some 8 := by kernel_rfl
@[go_sem] theorem Try.aagg139 : aAgg Try.prog 139 = some false := by kernel_rfl
@[go_sem] theorem Try.azero139 : aZero Try.prog 139 = some [.sc .nilFunc] := by kernel_rfl
@[go_sem] theorem Try.asize140 : aSize Try.prog 140 = some 2 := by kernel_rfl
@[go_sem] theorem Try.abytes140 : aBytes Try.prog 140 = some 40 := by kernel_rfl
@[go_sem] theorem Try.aagg140 : aAgg Try.prog 140 = some true := by kernel_rfl
@[go_sem] theorem Try.afield140_0 : aField Try.prog 140 0 = some (0, 1) := by kernel_rfl
@[go_sem] theorem Try.afield140_1 : aField Try.prog 140 1 = some (1, 1) := by kernel_rfl
@[go_sem] theorem Try.afieldsok140 : aFieldsOk Try.prog 140 = true := by kernel_rfl
@[go_sem] theorem Try.azero140 : aZero Try.prog 140 = some [.sc (.string ⟨#[]⟩), .slice .full 0 []] := by kernel_rfl
@[go_sem] theorem Try.asize141 : aSize Try.prog 141 = some 2 := by kernel_rfl
@[go_sem] theorem Try.abytes141 : aBytes Try.prog 141 = some 40 := by kernel_rfl
@[go_sem] theorem Try.aagg141 : aAgg Try.prog 141 = some true := by kernel_rfl
@[go_sem] theorem Try.afield141_0 : aField Try.prog 141 0 = some (0, 1) := by kernel_rfl
@[go_sem] theorem Try.afield141_1 : aField Try.prog 141 1 = some (1, 1) := by kernel_rfl
@[go_sem] theorem Try.afieldsok141 : aFieldsOk Try.prog 141 = true := by kernel_rfl
@[go_sem] theorem Try.azero141 : aZero Try.prog 141 = some [.sc (.string ⟨#[]⟩), .slice .full 0 []] := by kernel_rfl
@[go_sem] theorem Try.asize142 : aSize Try.prog 142 = some 1 := by kernel_rfl
@[go_sem] theorem Try.abytes142 : aBytes Try.prog 142 = some 8 := by kernel_rfl
@[go_sem] theorem Try.aagg142 : aAgg Try.prog 142 = some false := by kernel_rfl
@[go_sem] theorem Try.azero142 : aZero Try.prog 142 = some [.sc .nilFunc] := by kernel_rfl
@[go_sem] theorem Try.asize143 : aSize Try.prog 143 = some 1 := by kernel_rfl
@[go_sem] theorem Try.abytes143 : aBytes Try.prog 143 = some 8 := by kernel_rfl
@[go_sem] theorem Try.aagg143 : aAgg Try.prog 143 = some false := by kernel_rfl
@[go_sem] theorem Try.azero143 : aZero Try.prog 143 = some [.sc .nilFunc] := by kernel_rfl
@[go_sem] theorem Try.asize144 : aSize Try.prog 144 = some 1 := by kernel_rfl
@[go_sem] theorem Try.abytes144 : aBytes Try.prog 144 = some 8 := by kernel_rfl
@[go_sem] theorem Try.aagg144 : aAgg Try.prog 144 = some false := by kernel_rfl
@[go_sem] theorem Try.azero144 : aZero Try.prog 144 = some [.sc .nilFunc] := by kernel_rfl
@[go_sem] theorem Try.asize145 : aSize Try.prog 145 = some 1 := by kernel_rfl
@[go_sem] theorem Try.abytes145 : aBytes Try.prog 145 = some 8 := by kernel_rfl
@[go_sem] theorem Try.aagg145 : aAgg Try.prog 145 = some false := by kernel_rfl
@[go_sem] theorem Try.azero145 : aZero Try.prog 145 = some [.sc .nilFunc] := by kernel_rfl
@[go_sem] theorem Try.asize146 : aSize Try.prog 146 = some 1 := by kernel_rfl
@[go_sem] theorem Try.abytes146 : aBytes Try.prog 146 = some 8 := by kernel_rfl
@[go_sem] theorem Try.aagg146 : aAgg Try.prog 146 = some false := by kernel_rfl
@[go_sem] theorem Try.azero146 : aZero Try.prog 146 = some [.sc .nilFunc] := by kernel_rfl
@[go_sem] theorem Try.asize147 : aSize Try.prog 147 = some 1 := by kernel_rfl
@[go_sem] theorem Try.abytes147 : aBytes Try.prog 147 = some 24 := by kernel_rfl
@[go_sem] theorem Try.aagg147 : aAgg Try.prog 147 = some false := by kernel_rfl
@[go_sem] theorem Try.aelem147 : aElem Try.prog 147 = some 113 := by kernel_rfl
@[go_sem] theorem Try.azero147 : aZero Try.prog 147 = some [.slice .full 0 []] := by kernel_rfl
@[go_sem] theorem Try.asize148 : aSize Try.prog 148 = some 1 := by kernel_rfl
@[go_sem] theorem Try.abytes148 : aBytes Try.prog 148 = some 24 := by kernel_rfl
@[go_sem] theorem Try.aagg148 : aAgg Try.prog 148 = some false := by kernel_rfl
@[go_sem] theorem Try.aelem148 : aElem Try.prog 148 = some 73 := by kernel_rfl
@[go_sem] theorem Try.azero148 : aZero Try.prog 148 = some [.slice .full 0 []] := by kernel_rfl
@[go_sem] theorem Try.asize149 : aSize Try.prog 149 = some 1 := by kernel_rfl
@[go_sem] theorem Try.abytes149 : aBytes Try.prog 149 = some 8 := by kernel_rfl
@[go_sem] theorem Try.aagg149 : aAgg Try.prog 149 = some false := by kernel_rfl
@[go_sem] theorem Try.azero149 : aZero Try.prog 149 = some [.sc .nilFunc] := by kernel_rfl
@[go_sem] theorem Try.asize150 : aSize Try.prog 150 = some 1 := by kernel_rfl
@[go_sem] theorem Try.abytes150 : aBytes Try.prog 150 = some 8 := by kernel_rfl
@[go_sem] theorem Try.aagg150 : aAgg Try.prog 150 = some false := by kernel_rfl
@[go_sem] theorem Try.azero150 : aZero Try.prog 150 = some [.sc .nilFunc] := by kernel_rfl
@[go_sem] theorem Try.asize151 : aSize Try.prog 151 = some 1 := by kernel_rfl
@[go_sem] theorem Try.abytes151 : aBytes Try.prog 151 = some 8 := by kernel_rfl
@[go_sem] theorem Try.aagg151 : aAgg Try.prog 151 = some false := by kernel_rfl
@[go_sem] theorem Try.azero151 : aZero Try.prog 151 = some [.sc .nilFunc] := by kernel_rfl
@[go_sem] theorem Try.asize152 : aSize Try.prog 152 = some 1 := by kernel_rfl
@[go_sem] theorem Try.abytes152 : aBytes Try.prog 152 = some 8 := by kernel_rfl
@[go_sem] theorem Try.aagg152 : aAgg Try.prog 152 = some false := by kernel_rfl
@[go_sem] theorem Try.azero152 : aZero Try.prog 152 = some [.sc .nilFunc] := by kernel_rfl
@[go_sem] theorem Try.asize153 : aSize Try.prog 153 = some 1 := by kernel_rfl
@[go_sem] theorem Try.abytes153 : aBytes Try.prog 153 = some 8 := by kernel_rfl
@[go_sem] theorem Try.aagg153 : aAgg Try.prog 153 = some false := by kernel_rfl
@[go_sem] theorem Try.azero153 : aZero Try.prog 153 = some [.sc .nilFunc] := by kernel_rfl
@[go_sem] theorem Try.asize154 : aSize Try.prog 154 = some 1 := by kernel_rfl
@[go_sem] theorem Try.abytes154 : aBytes Try.prog 154 = some 8 := by kernel_rfl
@[go_sem] theorem Try.aagg154 : aAgg Try.prog 154 = some false := by kernel_rfl
@[go_sem] theorem Try.azero154 : aZero Try.prog 154 = some [.sc .nilFunc] := by kernel_rfl
@[go_sem] theorem Try.asize155 : aSize Try.prog 155 = some 1 := by kernel_rfl
@[go_sem] theorem Try.abytes155 : aBytes Try.prog 155 = some 8 := by kernel_rfl
@[go_sem] theorem Try.aagg155 : aAgg Try.prog 155 = some false := by kernel_rfl
@[go_sem] theorem Try.azero155 : aZero Try.prog 155 = some [.sc .nilFunc] := by kernel_rfl
@[go_sem] theorem Try.asize156 : aSize Try.prog 156 = some 1 := by kernel_rfl
@[go_sem] theorem Try.abytes156 : aBytes Try.prog 156 = some 8 := by kernel_rfl
@[go_sem] theorem Try.aagg156 : aAgg Try.prog 156 = some false := by kernel_rfl
@[go_sem] theorem Try.azero156 : aZero Try.prog 156 = some [.sc .nilFunc] := by kernel_rfl
@[go_sem] theorem Try.asize157 : aSize Try.prog 157 = some 1 := by kernel_rfl
@[go_sem] theorem Try.abytes157 : aBytes Try.prog 157 = some 8 := by kernel_rfl
@[go_sem] theorem Try.aagg157 : aAgg Try.prog 157 = some false := by kernel_rfl
@[go_sem] theorem Try.azero157 : aZero Try.prog 157 = some [.sc .nilFunc] := by kernel_rfl
@[go_sem] theorem Try.asize158 : aSize Try.prog 158 = some 1 := by kernel_rfl
@[go_sem] theorem Try.abytes158 : aBytes Try.prog 158 = some 8 := by kernel_rfl
@[go_sem] theorem Try.aagg158 : aAgg Try.prog 158 = some false := by kernel_rfl
@[go_sem] theorem Try.azero158 : aZero Try.prog 158 = some [.sc .nilFunc] := by kernel_rfl
@[go_sem] theorem Try.asize159 : aSize Try.prog 159 = some 1 := by kernel_rfl
@[go_sem] theorem Try.abytes159 : aBytes Try.prog 159 = some 8 := by kernel_rfl
@[go_sem] theorem Try.aagg159 : aAgg Try.prog 159 = some false := by kernel_rfl
@[go_sem] theorem Try.azero159 : aZero Try.prog 159 = some [.sc .nilFunc] := by kernel_rfl
@[go_sem] theorem Try.asize160 : aSize Try.prog 160 = some 1 := by kernel_rfl
@[go_sem] theorem Try.abytes160 : aBytes Try.prog 160 = some 8 := by kernel_rfl
@[go_sem] theorem Try.aagg160 : aAgg Try.prog 160 = some false := by kernel_rfl
@[go_sem] theorem Try.azero160 : aZero Try.prog 160 = some [.sc .nilFunc] := by kernel_rfl
@[go_sem] theorem Try.asize161 : aSize Try.prog 161 = some 1 := by kernel_rfl
@[go_sem] theorem Try.abytes161 : aBytes Try.prog 161 = some 8 := by kernel_rfl
@[go_sem] theorem Try.aagg161 : aAgg Try.prog 161 = some false := by kernel_rfl
@[go_sem] theorem Try.azero161 : aZero Try.prog 161 = some [.sc .nilFunc] := by kernel_rfl
@[go_sem] theorem Try.asize162 : aSize Try.prog 162 = some 1 := by kernel_rfl
@[go_sem] theorem Try.abytes162 : aBytes Try.prog 162 = some 8 := by kernel_rfl
@[go_sem] theorem Try.aagg162 : aAgg Try.prog 162 = some false := by kernel_rfl
@[go_sem] theorem Try.azero162 : aZero Try.prog 162 = some [.sc .nilFunc] := by kernel_rfl
@[go_sem] theorem Try.asize163 : aSize Try.prog 163 = some 1 := by kernel_rfl
@[go_sem] theorem Try.abytes163 : aBytes Try.prog 163 = some 8 := by kernel_rfl
@[go_sem] theorem Try.aagg163 : aAgg Try.prog 163 = some false := by kernel_rfl
@[go_sem] theorem Try.azero163 : aZero Try.prog 163 = some [.sc .nilFunc] := by kernel_rfl
@[go_sem] theorem Try.asize164 : aSize Try.prog 164 = some 1 := by kernel_rfl
@[go_sem] theorem Try.abytes164 : aBytes Try.prog 164 = some 8 := by kernel_rfl
@[go_sem] theorem Try.aagg164 : aAgg Try.prog 164 = some false := by kernel_rfl
@[go_sem] theorem Try.azero164 : aZero Try.prog 164 = some [.sc .nilFunc] := by kernel_rfl
@[go_sem] theorem Try.asize165 : aSize Try.prog 165 = some 1 := by kernel_rfl
@[go_sem] theorem Try.abytes165 : aBytes Try.prog 165 = some 8 := by kernel_rfl
@[go_sem] theorem Try.aagg165 : aAgg Try.prog 165 = some false := by kernel_rfl
@[go_sem] theorem Try.azero165 : aZero Try.prog 165 = some [.sc .nilFunc] := by kernel_rfl
@[go_sem] theorem Try.asize166 : aSize Try.prog 166 = some 1 := by kernel_rfl
@[go_sem] theorem Try.abytes166 : aBytes Try.prog 166 = some 8 := by kernel_rfl
@[go_sem] theorem Try.aagg166 : aAgg Try.prog 166 = some false := by kernel_rfl
@[go_sem] theorem Try.azero166 : aZero Try.prog 166 = some [.sc .nilFunc] := by kernel_rfl
@[go_sem] theorem Try.asize167 : aSize Try.prog 167 = some 1 := by kernel_rfl
@[go_sem] theorem Try.abytes167 : aBytes Try.prog 167 = some 8 := by kernel_rfl
@[go_sem] theorem Try.aagg167 : aAgg Try.prog 167 = some false := by kernel_rfl
@[go_sem] theorem Try.azero167 : aZero Try.prog 167 = some [.sc (.int .u64 (0))] := by kernel_rfl
@[go_sem] theorem Try.asize168 : aSize Try.prog 168 = some 1 := by kernel_rfl
@[go_sem] theorem Try.abytes168 : aBytes Try.prog 168 = some 8 := by kernel_rfl
@[go_sem] theorem Try.aagg168 : aAgg Try.prog 168 = some false := by kernel_rfl
@[go_sem] theorem Try.azero168 : aZero Try.prog 168 = some [.sc .nilFunc] := by kernel_rfl
@[go_sem] theorem Try.asize169 : aSize Try.prog 169 = some 1 := by kernel_rfl
@[go_sem] theorem Try.abytes169 : aBytes Try.prog 169 = some 8 := by kernel_rfl
@[go_sem] theorem Try.aagg169 : aAgg Try.prog 169 = some false := by kernel_rfl
@[go_sem] theorem Try.azero169 : aZero Try.prog 169 = some [.sc .nilFunc] := by kernel_rfl
@[go_sem] theorem Try.asize170 : aSize Try.prog 170 = some 1 := by kernel_rfl
@[go_sem] theorem Try.abytes170 : aBytes Try.prog 170 = some 8 := by kernel_rfl
@[go_sem] theorem Try.aagg170 : aAgg Try.prog 170 = some false := by kernel_rfl
@[go_sem] theorem Try.azero170 : aZero Try.prog 170 = some [.sc .nilFunc] := by kernel_rfl
@[go_sem] theorem Try.asize171 : aSize Try.prog 171 = some 1 := by kernel_rfl
@[go_sem] theorem Try.abytes171 : aBytes Try.prog 171 = some 0 := by kernel_rfl
@[go_sem] theorem Try.aagg171 : aAgg Try.prog 171 = some false := by kernel_rfl
@[go_sem] theorem Try.asize172 : aSize Try.prog 172 = some 1 := by kernel_rfl
@[go_sem] theorem Try.abytes172 : aBytes Try.prog 172 = some 8 := by kernel_rfl
@[go_sem] theorem Try.aagg172 : aAgg Try.prog 172 = some false := by kernel_rfl
@[go_sem] theorem Try.azero172 : aZero Try.prog 172 = some [.sc .nilFunc] := by kernel_rfl
@[go_sem] theorem Try.asize173 : aSize Try.prog 173 = some 1 := by kernel_rfl
@[go_sem] theorem Try.abytes173 : aBytes Try.prog 173 = some 8 := by kernel_rfl
@[go_sem] theorem Try.aagg173 : aAgg Try.prog 173 = some false := by kernel_rfl
@[go_sem] theorem Try.azero173 : aZero Try.prog 173 = some [.sc .nilFunc] := by kernel_rfl
@[go_sem] theorem Try.asize174 : aSize Try.prog 174 = some 1 := by kernel_rfl
@[go_sem] theorem Try.abytes174 : aBytes Try.prog 174 = some 8 := by kernel_rfl
@[go_sem] theorem Try.aagg174 : aAgg Try.prog 174 = some false := by kernel_rfl
@[go_sem] theorem Try.azero174 : aZero Try.prog 174 = some [.sc .nilFunc] := by kernel_rfl
@[go_sem] theorem Try.asize175 : aSize Try.prog 175 = some 1 := by kernel_rfl
@[go_sem] theorem Try.abytes175 : aBytes Try.prog 175 = some 8 := by kernel_rfl
@[go_sem] theorem Try.aagg175 : aAgg Try.prog 175 = some false := by kernel_rfl
@[go_sem] theorem Try.azero175 : aZero Try.prog 175 = some [.sc .nilFunc] := by kernel_rfl
@[go_sem] theorem Try.asize176 : aSize Try.prog 176 = some 1 := by kernel_rfl
@[go_sem] theorem Try.abytes176 : aBytes Try.prog 176 = some 8 := by kernel_rfl
@[go_sem] theorem Try.aagg176 : aAgg Try.prog 176 = some false := by kernel_rfl
@[go_sem] theorem Try.azero176 : aZero Try.prog 176 = some [.sc .nilFunc] := by kernel_rfl
@[go_sem] theorem Try.asize177 : aSize Try.prog 177 = some 1 := by kernel_rfl
@[go_sem] theorem Try.abytes177 : aBytes Try.prog 177 = some 8 := by kernel_rfl
@[go_sem] theorem Try.aagg177 : aAgg Try.prog 177 = some false := by kernel_rfl
@[go_sem] theorem Try.azero177 : aZero Try.prog 177 = some [.sc .nilFunc] := by kernel_rfl
@[go_sem] theorem Try.asize178 : aSize Try.prog 178 = some 1 := by kernel_rfl
@[go_sem] theorem Try.abytes178 : aBytes Try.prog 178 = some 0 := by kernel_rfl
@[go_sem] theorem Try.aagg178 : aAgg Try.prog 178 = some false := by kernel_rfl
@[go_sem] theorem Try.asize179 : aSize Try.prog 179 = some 1 := by kernel_rfl
@[go_sem] theorem Try.abytes179 : aBytes Try.prog 179 = some 8 := by kernel_rfl
@[go_sem] theorem Try.aagg179 : aAgg Try.prog 179 = some false := by kernel_rfl
@[go_sem] theorem Try.azero179 : aZero Try.prog 179 = some [.sc .nilFunc] := by kernel_rfl
@[go_sem] theorem Try.asize180 : aSize Try.prog 180 = some 1 := by kernel_rfl
@[go_sem] theorem Try.abytes180 : aBytes Try.prog 180 = some 8 := by kernel_rfl
@[go_sem] theorem Try.aagg180 : aAgg Try.prog 180 = some false := by kernel_rfl
@[go_sem] theorem Try.azero180 : aZero Try.prog 180 = some [.sc .nilFunc] := by kernel_rfl
@[go_sem] theorem Try.asize181 : aSize Try.prog 181 = some 1 := by kernel_rfl
@[go_sem] theorem Try.abytes181 : aBytes Try.prog 181 = some 8 := by kernel_rfl
@[go_sem] theorem Try.aagg181 : aAgg Try.prog 181 = some false := by kernel_rfl
@[go_sem] theorem Try.azero181 : aZero Try.prog 181 = some [.sc .nilFunc] := by kernel_rfl
@[go_sem] theorem Try.asize182 : aSize Try.prog 182 = some 1 := by kernel_rfl
@[go_sem] theorem Try.abytes182 : aBytes Try.prog 182 = some 8 := by kernel_rfl
@[go_sem] theorem Try.aagg182 : aAgg Try.prog 182 = some false := by kernel_rfl
@[go_sem] theorem Try.azero182 : aZero Try.prog 182 = some [.sc .nilFunc] := by kernel_rfl
@[go_sem] theorem Try.asize183 : aSize Try.prog 183 = some 1 := by kernel_rfl
@[go_sem] theorem Try.abytes183 : aBytes Try.prog 183 = some 8 := by kernel_rfl
@[go_sem] theorem Try.aagg183 : aAgg Try.prog 183 = some false := by kernel_rfl
@[go_sem] theorem Try.azero183 : aZero Try.prog 183 = some [.sc .nilFunc] := by kernel_rfl
@[go_sem] theorem Try.asize184 : aSize Try.prog 184 = some 1 := by kernel_rfl
@[go_sem] theorem Try.abytes184 : aBytes Try.prog 184 = some 8 := by kernel_rfl
@[go_sem] theorem Try.aagg184 : aAgg Try.prog 184 = some false := by kernel_rfl
@[go_sem] theorem Try.azero184 : aZero Try.prog 184 = some [.sc .nilFunc] := by kernel_rfl
@[go_sem] theorem Try.asize185 : aSize Try.prog 185 = some 1 := by kernel_rfl
@[go_sem] theorem Try.abytes185 : aBytes Try.prog 185 = some 0 := by kernel_rfl
@[go_sem] theorem Try.aagg185 : aAgg Try.prog 185 = some false := by kernel_rfl
@[go_sem] theorem Try.asize186 : aSize Try.prog 186 = some 1 := by kernel_rfl
@[go_sem] theorem Try.abytes186 : aBytes Try.prog 186 = some 8 := by kernel_rfl
@[go_sem] theorem Try.aagg186 : aAgg Try.prog 186 = some false := by kernel_rfl
@[go_sem] theorem Try.azero186 : aZero Try.prog 186 = some [.sc .nilFunc] := by kernel_rfl
@[go_sem] theorem Try.asize187 : aSize Try.prog 187 = some 1 := by kernel_rfl
@[go_sem] theorem Try.abytes187 : aBytes Try.prog 187 = some 8 := by kernel_rfl
@[go_sem] theorem Try.aagg187 : aAgg Try.prog 187 = some false := by kernel_rfl
@[go_sem] theorem Try.azero187 : aZero Try.prog 187 = some [.sc .nilFunc] := by kernel_rfl
@[go_sem] theorem Try.asize188 : aSize Try.prog 188 = some 1 := by kernel_rfl
@[go_sem] theorem Try.abytes188 : aBytes Try.prog 188 = some 8 := by kernel_rfl
@[go_sem] theorem Try.aagg188 : aAgg Try.prog 188 = some false := by kernel_rfl
@[go_sem] theorem Try.azero188 : aZero Try.prog 188 = some [.sc .nilFunc] := by kernel_rfl
@[go_sem] theorem Try.asize189 : aSize Try.prog 189 = some 1 := by kernel_rfl
@[go_sem] theorem Try.abytes189 : aBytes Try.prog 189 = some 8 := by kernel_rfl
@[go_sem] theorem Try.aagg189 : aAgg Try.prog 189 = some false := by kernel_rfl
@[go_sem] theorem Try.azero189 : aZero Try.prog 189 = some [.sc .nilFunc] := by kernel_rfl
@[go_sem] theorem Try.asize190 : aSize Try.prog 190 = some 1 := by kernel_rfl
@[go_sem] theorem Try.abytes190 : aBytes Try.prog 190 = some 8 := by kernel_rfl
@[go_sem] theorem Try.aagg190 : aAgg Try.prog 190 = some false := by kernel_rfl
@[go_sem] theorem Try.azero190 : aZero Try.prog 190 = some [.sc .nilFunc] := by kernel_rfl
@[go_sem] theorem Try.asize191 : aSize Try.prog 191 = some 1 := by kernel_rfl
@[go_sem] theorem Try.abytes191 : aBytes Try.prog 191 = some 8 := by kernel_rfl
@[go_sem] theorem Try.aagg191 : aAgg Try.prog 191 = some false := by kernel_rfl
@[go_sem] theorem Try.azero191 : aZero Try.prog 191 = some [.sc (.int .i64 (0))] := by kernel_rfl
@[go_sem] theorem Try.asize192 : aSize Try.prog 192 = some 1 := by kernel_rfl
@[go_sem] theorem Try.abytes192 : aBytes Try.prog 192 = some 0 := by kernel_rfl
@[go_sem] theorem Try.aagg192 : aAgg Try.prog 192 = some false := by kernel_rfl
@[go_sem] theorem Try.asize193 : aSize Try.prog 193 = some 1 := by kernel_rfl
@[go_sem] theorem Try.abytes193 : aBytes Try.prog 193 = some 8 := by kernel_rfl
@[go_sem] theorem Try.aagg193 : aAgg Try.prog 193 = some false := by kernel_rfl
@[go_sem] theorem Try.azero193 : aZero Try.prog 193 = some [.sc .nilFunc] := by kernel_rfl
@[go_sem] theorem Try.asize194 : aSize Try.prog 194 = some 1 := by kernel_rfl
@[go_sem] theorem Try.abytes194 : aBytes Try.prog 194 = some 8 := by kernel_rfl
@[go_sem] theorem Try.aagg194 : aAgg Try.prog 194 = some false := by kernel_rfl
@[go_sem] theorem Try.azero194 : aZero Try.prog 194 = some [.sc .nilFunc] := by kernel_rfl
@[go_sem] theorem Try.asize195 : aSize Try.prog 195 = some 1 := by kernel_rfl
@[go_sem] theorem Try.abytes195 : aBytes Try.prog 195 = some 8 := by kernel_rfl
@[go_sem] theorem Try.aagg195 : aAgg Try.prog 195 = some false := by kernel_rfl
@[go_sem] theorem Try.azero195 : aZero Try.prog 195 = some [.sc .nilFunc] := by kernel_rfl
@[go_sem] theorem Try.asize196 : aSize Try.prog 196 = some 1 := by kernel_rfl
@[go_sem] theorem Try.abytes196 : aBytes Try.prog 196 = some 8 := by kernel_rfl
@[go_sem] theorem Try.aagg196 : aAgg Try.prog 196 = some false := by kernel_rfl
@[go_sem] theorem Try.azero196 : aZero Try.prog 196 = some [.sc .nilFunc] := by kernel_rfl
@[go_sem] theorem Try.asize197 : aSize Try.prog 197 = some 1 := by kernel_rfl
@[go_sem] theorem Try.abytes197 : aBytes Try.prog 197 = some 8 := by kernel_rfl
@[go_sem] theorem Try.aagg197 : aAgg Try.prog 197 = some false := by kernel_rfl
@[go_sem] theorem Try.azero197 : aZero Try.prog 197 = some [.sc .nilFunc] := by kernel_rfl
@[go_sem] theorem Try.asize198 : aSize Try.prog 198 = some 1 := by kernel_rfl
@[go_sem] theorem Try.abytes198 : aBytes Try.prog 198 = some 4 := by kernel_rfl
@[go_sem] theorem Try.aagg198 : aAgg Try.prog 198 = some false := by kernel_rfl
@[go_sem] theorem Try.azero198 : aZero Try.prog 198 = some [.sc (.int .u32 (0))] := by kernel_rfl
@[go_sem] theorem Try.asize199 : aSize Try.prog 199 = some 1 := by kernel_rfl
@[go_sem] theorem Try.abytes199 : aBytes Try.prog 199 = some 8 := by kernel_rfl
@[go_sem] theorem Try.aagg199 : aAgg Try.prog 199 = some false := by kernel_rfl
@[go_sem] theorem Try.azero199 : aZero Try.prog 199 = some [.sc .nilFunc] := by kernel_rfl
@[go_sem] theorem Try.asize200 : aSize Try.prog 200 = some 1 := by kernel_rfl
@[go_sem] theorem Try.abytes200 : aBytes Try.prog 200 = some 8 := by kernel_rfl
@[go_sem] theorem Try.aagg200 : aAgg Try.prog 200 = some false := by kernel_rfl
@[go_sem] theorem Try.azero200 : aZero Try.prog 200 = some [.sc (.int .u64 (0))] := by kernel_rfl
@[go_sem] theorem Try.asize201 : aSize Try.prog 201 = some 1 := by kernel_rfl
@[go_sem] theorem Try.abytes201 : aBytes Try.prog 201 = some 8 := by kernel_rfl
@[go_sem] theorem Try.aagg201 : aAgg Try.prog 201 = some false := by kernel_rfl
@[go_sem] theorem Try.azero201 : aZero Try.prog 201 = some [.sc .nilFunc] := by kernel_rfl
@[go_sem] theorem Try.asize202 : aSize Try.prog 202 = some 1 := by kernel_rfl
@[go_sem] theorem Try.abytes202 : aBytes Try.prog 202 = some 8 := by kernel_rfl
@[go_sem] theorem Try.aagg202 : aAgg Try.prog 202 = some false := by kernel_rfl
@[go_sem] theorem Try.azero202 : aZero Try.prog 202 = some [.sc .nilFunc] := by kernel_rfl
@[go_sem] theorem Try.asize203 : aSize Try.prog 203 = some 1 := by kernel_rfl
@[go_sem] theorem Try.abytes203 : aBytes Try.prog 203 = some 8 := by kernel_rfl
@[go_sem] theorem Try.aagg203 : aAgg Try.prog 203 = some false := by kernel_rfl
@[go_sem] theorem Try.azero203 : aZero Try.prog 203 = some [.sc .nilFunc] := by kernel_rfl
@[go_sem] theorem Try.asize204 : aSize Try.prog 204 = some 1 := by kernel_rfl
@[go_sem] theorem Try.abytes204 : aBytes Try.prog 204 = some 8 := by kernel_rfl
@[go_sem] theorem Try.aagg204 : aAgg Try.prog 204 = some false := by kernel_rfl
@[go_sem] theorem Try.azero204 : aZero Try.prog 204 = some [.sc .nilFunc] := by kernel_rfl
@[go_sem] theorem Try.asize205 : aSize Try.prog 205 = some 1 := by kernel_rfl
@[go_sem] theorem Try.abytes205 : aBytes Try.prog 205 = some 0 := by kernel_rfl
@[go_sem] theorem Try.aagg205 : aAgg Try.prog 205 = some false := by kernel_rfl
@[go_sem] theorem Try.asize206 : aSize Try.prog 206 = some 1 := by kernel_rfl
@[go_sem] theorem Try.abytes206 : aBytes Try.prog 206 = some 8 := by kernel_rfl
@[go_sem] theorem Try.aagg206 : aAgg Try.prog 206 = some false := by kernel_rfl
@[go_sem] theorem Try.azero206 : aZero Try.prog 206 = some [.sc .nilFunc] := by kernel_rfl
@[go_sem] theorem Try.asize207 : aSize Try.prog 207 = some 1 := by kernel_rfl
@[go_sem] theorem Try.abytes207 : aBytes Try.prog 207 = some 8 := by kernel_rfl
@[go_sem] theorem Try.aagg207 : aAgg Try.prog 207 = some false := by kernel_rfl
@[go_sem] theorem Try.azero207 : aZero Try.prog 207 = some [.sc .nilFunc] := by kernel_rfl
@[go_sem] theorem Try.asize208 : aSize Try.prog 208 = some 1 := by kernel_rfl
@[go_sem] theorem Try.abytes208 : aBytes Try.prog 208 = some 24 := by kernel_rfl
@[go_sem] theorem Try.aagg208 : aAgg Try.prog 208 = some false := by kernel_rfl
@[go_sem] theorem Try.aelem208 : aElem Try.prog 208 = some 118 := by kernel_rfl
@[go_sem] theorem Try.azero208 : aZero Try.prog 208 = some [.slice .full 0 []] := by kernel_rfl
@[go_sem] theorem Try.asize209 : aSize Try.prog 209 = some 1 := by kernel_rfl
@[go_sem] theorem Try.abytes209 : aBytes Try.prog 209 = some 8 := by kernel_rfl
@[go_sem] theorem Try.aagg209 : aAgg Try.prog 209 = some false := by kernel_rfl
@[go_sem] theorem Try.azero209 : aZero Try.prog 209 = some [.sc .nilFunc] := by kernel_rfl
@[go_sem] theorem Try.asize210 : aSize Try.prog 210 = some 1 := by kernel_rfl
@[go_sem] theorem Try.abytes210 : aBytes Try.prog 210 = some 8 := by kernel_rfl
@[go_sem] theorem Try.aagg210 : aAgg Try.prog 210 = some false := by kernel_rfl
@[go_sem] theorem Try.azero210 : aZero Try.prog 210 = some [.sc (.int .u64 (0))] := by kernel_rfl
@[go_sem] theorem Try.asize211 : aSize Try.prog 211 = some 1 := by kernel_rfl
@[go_sem] theorem Try.abytes211 : aBytes Try.prog 211 = some 8 := by kernel_rfl
@[go_sem] theorem Try.aagg211 : aAgg Try.prog 211 = some false := by kernel_rfl
@[go_sem] theorem Try.azero211 : aZero Try.prog 211 = some [.sc .nilFunc] := by kernel_rfl
@[go_sem] theorem Try.asize212 : aSize Try.prog 212 = some 1 := by kernel_rfl
@[go_sem] theorem Try.abytes212 : aBytes Try.prog 212 = some 8 := by kernel_rfl
@[go_sem] theorem Try.aagg212 : aAgg Try.prog 212 = some false := by kernel_rfl
@[go_sem] theorem Try.azero212 : aZero Try.prog 212 = some [.sc .nilFunc] := by kernel_rfl
@[go_sem] theorem Try.asize213 : aSize Try.prog 213 = some 1 := by kernel_rfl
@[go_sem] theorem Try.abytes213 : aBytes Try.prog 213 = some 8 := by kernel_rfl
@[go_sem] theorem Try.aagg213 : aAgg Try.prog 213 = some false := by kernel_rfl
@[go_sem] theorem Try.azero213 : aZero Try.prog 213 = some [.sc .nilFunc] := by kernel_rfl
@[go_sem] theorem Try.asize214 : aSize Try.prog 214 = some 1 := by kernel_rfl
@[go_sem] theorem Try.abytes214 : aBytes Try.prog 214 = some 8 := by kernel_rfl
@[go_sem] theorem Try.aagg214 : aAgg Try.prog 214 = some false := by kernel_rfl
@[go_sem] theorem Try.aisptr214 : aIsPtr Try.prog 214 = true := by kernel_rfl
@[go_sem] theorem Try.azero214 : aZero Try.prog 214 = some [.sc (.pointer none)] := by kernel_rfl
@[go_sem] theorem Try.asize215 : aSize Try.prog 215 = some 1 := by kernel_rfl
@[go_sem] theorem Try.abytes215 : aBytes Try.prog 215 = some 8 := by kernel_rfl
@[go_sem] theorem Try.aagg215 : aAgg Try.prog 215 = some false := by kernel_rfl
@[go_sem] theorem Try.azero215 : aZero Try.prog 215 = some [.sc .nilFunc] := by kernel_rfl
@[go_sem] theorem Try.asize216 : aSize Try.prog 216 = some 1 := by kernel_rfl
@[go_sem] theorem Try.abytes216 : aBytes Try.prog 216 = some 0 := by kernel_rfl
@[go_sem] theorem Try.aagg216 : aAgg Try.prog 216 = some false := by kernel_rfl
@[go_sem] theorem Try.asize217 : aSize Try.prog 217 = some 1 := by kernel_rfl
@[go_sem] theorem Try.abytes217 : aBytes Try.prog 217 = some 8 := by kernel_rfl
@[go_sem] theorem Try.aagg217 : aAgg Try.prog 217 = some false := by kernel_rfl
@[go_sem] theorem Try.azero217 : aZero Try.prog 217 = some [.sc .nilFunc] := by kernel_rfl
@[go_sem] theorem Try.asize218 : aSize Try.prog 218 = some 1 := by kernel_rfl
@[go_sem] theorem Try.abytes218 : aBytes Try.prog 218 = some 0 := by kernel_rfl
@[go_sem] theorem Try.aagg218 : aAgg Try.prog 218 = some false := by kernel_rfl
@[go_sem] theorem Try.asize219 : aSize Try.prog 219 = some 1 := by kernel_rfl
@[go_sem] theorem Try.abytes219 : aBytes Try.prog 219 = some 8 := by kernel_rfl
@[go_sem] theorem Try.aagg219 : aAgg Try.prog 219 = some false := by kernel_rfl
@[go_sem] theorem Try.azero219 : aZero Try.prog 219 = some [.sc .nilFunc] := by kernel_rfl
@[go_sem] theorem Try.asize220 : aSize Try.prog 220 = some 1 := by kernel_rfl
@[go_sem] theorem Try.abytes220 : aBytes Try.prog 220 = some 8 := by kernel_rfl
@[go_sem] theorem Try.aagg220 : aAgg Try.prog 220 = some false := by kernel_rfl
@[go_sem] theorem Try.azero220 : aZero Try.prog 220 = some [.sc .nilFunc] := by kernel_rfl
@[go_sem] theorem Try.asize221 : aSize Try.prog 221 = some 1 := by kernel_rfl
@[go_sem] theorem Try.abytes221 : aBytes Try.prog 221 = some 8 := by kernel_rfl
@[go_sem] theorem Try.aagg221 : aAgg Try.prog 221 = some false := by kernel_rfl
@[go_sem] theorem Try.azero221 : aZero Try.prog 221 = some [.sc .nilFunc] := by kernel_rfl
@[go_sem] theorem Try.asize222 : aSize Try.prog 222 = some 1 := by kernel_rfl
@[go_sem] theorem Try.abytes222 : aBytes Try.prog 222 = some 8 := by kernel_rfl
@[go_sem] theorem Try.aagg222 : aAgg Try.prog 222 = some false := by kernel_rfl
@[go_sem] theorem Try.azero222 : aZero Try.prog 222 = some [.sc .nilFunc] := by kernel_rfl
@[go_sem] theorem Try.asize223 : aSize Try.prog 223 = some 1 := by kernel_rfl
@[go_sem] theorem Try.abytes223 : aBytes Try.prog 223 = some 8 := by kernel_rfl
@[go_sem] theorem Try.aagg223 : aAgg Try.prog 223 = some false := by kernel_rfl
@[go_sem] theorem Try.azero223 : aZero Try.prog 223 = some [.sc .nilFunc] := by kernel_rfl
@[go_sem] theorem Try.asize224 : aSize Try.prog 224 = some 1 := by kernel_rfl
@[go_sem] theorem Try.abytes224 : aBytes Try.prog 224 = some 8 := by kernel_rfl
@[go_sem] theorem Try.aagg224 : aAgg Try.prog 224 = some false := by kernel_rfl
@[go_sem] theorem Try.azero224 : aZero Try.prog 224 = some [.sc .nilFunc] := by kernel_rfl
@[go_sem] theorem Try.asize225 : aSize Try.prog 225 = some 1 := by kernel_rfl
@[go_sem] theorem Try.abytes225 : aBytes Try.prog 225 = some 8 := by kernel_rfl
@[go_sem] theorem Try.aagg225 : aAgg Try.prog 225 = some false := by kernel_rfl
@[go_sem] theorem Try.aisptr225 : aIsPtr Try.prog 225 = true := by kernel_rfl
@[go_sem] theorem Try.azero225 : aZero Try.prog 225 = some [.sc (.pointer none)] := by kernel_rfl
@[go_sem] theorem Try.asize226 : aSize Try.prog 226 = some 1 := by kernel_rfl
@[go_sem] theorem Try.abytes226 : aBytes Try.prog 226 = some 0 := by kernel_rfl
@[go_sem] theorem Try.aagg226 : aAgg Try.prog 226 = some false := by kernel_rfl
@[go_sem] theorem Try.asize227 : aSize Try.prog 227 = some 1 := by kernel_rfl
@[go_sem] theorem Try.abytes227 : aBytes Try.prog 227 = some 8 := by kernel_rfl
@[go_sem] theorem Try.aagg227 : aAgg Try.prog 227 = some false := by kernel_rfl
@[go_sem] theorem Try.azero227 : aZero Try.prog 227 = some [.sc .nilFunc] := by kernel_rfl
@[go_sem] theorem Try.asize228 : aSize Try.prog 228 = some 1 := by kernel_rfl
@[go_sem] theorem Try.abytes228 : aBytes Try.prog 228 = some 8 := by kernel_rfl
@[go_sem] theorem Try.aagg228 : aAgg Try.prog 228 = some false := by kernel_rfl
@[go_sem] theorem Try.azero228 : aZero Try.prog 228 = some [.sc .nilFunc] := by kernel_rfl
@[go_sem] theorem Try.asize229 : aSize Try.prog 229 = some 1 := by kernel_rfl
@[go_sem] theorem Try.abytes229 : aBytes Try.prog 229 = some 8 := by kernel_rfl
@[go_sem] theorem Try.aagg229 : aAgg Try.prog 229 = some false := by kernel_rfl
@[go_sem] theorem Try.azero229 : aZero Try.prog 229 = some [.sc .nilFunc] := by kernel_rfl
@[go_sem] theorem Try.asize230 : aSize Try.prog 230 = some 1 := by kernel_rfl
@[go_sem] theorem Try.abytes230 : aBytes Try.prog 230 = some 8 := by kernel_rfl
@[go_sem] theorem Try.aagg230 : aAgg Try.prog 230 = some false := by kernel_rfl
@[go_sem] theorem Try.azero230 : aZero Try.prog 230 = some [.sc .nilFunc] := by kernel_rfl
@[go_sem] theorem Try.asize231 : aSize Try.prog 231 = some 1 := by kernel_rfl
@[go_sem] theorem Try.abytes231 : aBytes Try.prog 231 = some 8 := by kernel_rfl
@[go_sem] theorem Try.aagg231 : aAgg Try.prog 231 = some false := by kernel_rfl
@[go_sem] theorem Try.azero231 : aZero Try.prog 231 = some [.sc .nilFunc] := by kernel_rfl
@[go_sem] theorem Try.asize232 : aSize Try.prog 232 = some 4 := by kernel_rfl
@[go_sem] theorem Try.abytes232 : aBytes Try.prog 232 = some 40 := by kernel_rfl
@[go_sem] theorem Try.aagg232 : aAgg Try.prog 232 = some true := by kernel_rfl
@[go_sem] theorem Try.afield232_0 : aField Try.prog 232 0 = some (0, 1) := by kernel_rfl
@[go_sem] theorem Try.afield232_1 : aField Try.prog 232 1 = some (1, 1) := by kernel_rfl
@[go_sem] theorem Try.afield232_2 : aField Try.prog 232 2 = some (2, 1) := by kernel_rfl
@[go_sem] theorem Try.afield232_3 : aField Try.prog 232 3 = some (3, 1) := by kernel_rfl
@[go_sem] theorem Try.afieldsok232 : aFieldsOk Try.prog 232 = true := by kernel_rfl
@[go_sem] theorem Try.azero232 : aZero Try.prog 232 = some [.sc (.pointer none), .sc (.pointer none), .sc (.pointer none), .sc (.string ⟨#[]⟩)] := by kernel_rfl
@[go_sem] theorem Try.asize233 : aSize Try.prog 233 = some 4 := by kernel_rfl
@[go_sem] theorem Try.abytes233 : aBytes Try.prog 233 = some 40 := by kernel_rfl
@[go_sem] theorem Try.aagg233 : aAgg Try.prog 233 = some true := by kernel_rfl
@[go_sem] theorem Try.afield233_0 : aField Try.prog 233 0 = some (0, 1) := by kernel_rfl
@[go_sem] theorem Try.afield233_1 : aField Try.prog 233 1 = some (1, 1) := by kernel_rfl
@[go_sem] theorem Try.afield233_2 : aField Try.prog 233 2 = some (2, 1) := by kernel_rfl
@[go_sem] theorem Try.afield233_3 : aField Try.prog 233 3 = some (3, 1) := by kernel_rfl
@[go_sem] theorem Try.afieldsok233 : aFieldsOk Try.prog 233 = true := by kernel_rfl
@[go_sem] theorem Try.azero233 : aZero Try.prog 233 = some [.sc (.pointer none), .sc (.pointer none), .sc (.pointer none), .sc (.string ⟨#[]⟩)] := by kernel_rfl
@[go_sem] theorem Try.asize237 : aSize Try.prog 237 = some 1 := by kernel_rfl
@[go_sem] theorem Try.abytes237 : aBytes Try.prog 237 = some 1 := by kernel_rfl
@[go_sem] theorem Try.aagg237 : aAgg Try.prog 237 = some false := by kernel_rfl
@[go_sem] theorem Try.azero237 : aZero Try.prog 237 = some [.sc (.int .u8 (0))] := by kernel_rfl
@[go_sem] theorem Try.asize238 : aSize Try.prog 238 = some 1 := by kernel_rfl
@[go_sem] theorem Try.abytes238 : aBytes Try.prog 238 = some 1 := by kernel_rfl
@[go_sem] theorem Try.aagg238 : aAgg Try.prog 238 = some false := by kernel_rfl
@[go_sem] theorem Try.azero238 : aZero Try.prog 238 = some [.sc (.int .u8 (0))] := by kernel_rfl
@[go_sem] theorem Try.asize239 : aSize Try.prog 239 = some 1 := by kernel_rfl
@[go_sem] theorem Try.abytes239 : aBytes Try.prog 239 = some 8 := by kernel_rfl
@[go_sem] theorem Try.aagg239 : aAgg Try.prog 239 = some false := by kernel_rfl
@[go_sem] theorem Try.azero239 : aZero Try.prog 239 = some [.sc .nilFunc] := by kernel_rfl
@[go_sem] theorem Try.asize240 : aSize Try.prog 240 = some 1 := by kernel_rfl
@[go_sem] theorem Try.abytes240 : aBytes Try.prog 240 = some 8 := by kernel_rfl
@[go_sem] theorem Try.aagg240 : aAgg Try.prog 240 = some false := by kernel_rfl
@[go_sem] theorem Try.aisptr240 : aIsPtr Try.prog 240 = true := by kernel_rfl
@[go_sem] theorem Try.azero240 : aZero Try.prog 240 = some [.sc (.pointer none)] := by kernel_rfl
@[go_sem] theorem Try.asize241 : aSize Try.prog 241 = some 1 := by kernel_rfl
@[go_sem] theorem Try.abytes241 : aBytes Try.prog 241 = some 4 := by kernel_rfl
@[go_sem] theorem Try.aagg241 : aAgg Try.prog 241 = some false := by kernel_rfl
@[go_sem] theorem Try.azero241 : aZero Try.prog 241 = some [.sc (.int .i32 (0))] := by kernel_rfl
@[go_sem] theorem Try.asize242 : aSize Try.prog 242 = some 1 := by kernel_rfl
@[go_sem] theorem Try.abytes242 : aBytes Try.prog 242 = some 4 := by kernel_rfl
@[go_sem] theorem Try.aagg242 : aAgg Try.prog 242 = some false := by kernel_rfl
@[go_sem] theorem Try.azero242 : aZero Try.prog 242 = some [.sc (.int .i32 (0))] := by kernel_rfl
@[go_sem] theorem Try.asize243 : aSize Try.prog 243 = some 11 := by kernel_rfl
@[go_sem] theorem Try.abytes243 : aBytes Try.prog 243 = some 48 := by kernel_rfl
@[go_sem] theorem Try.aagg243 : aAgg Try.prog 243 = some true := by kernel_rfl
@[go_sem] theorem Try.afield243_0 : aField Try.prog 243 0 = some (0, 1) := by kernel_rfl
@[go_sem] theorem Try.afield243_1 : aField Try.prog 243 1 = some (1, 1) := by kernel_rfl
@[go_sem] theorem Try.afield243_2 : aField Try.prog 243 2 = some (2, 1) := by kernel_rfl
@[go_sem] theorem Try.afield243_3 : aField Try.prog 243 3 = some (3, 1) := by kernel_rfl
@[go_sem] theorem Try.afield243_4 : aField Try.prog 243 4 = some (4, 1) := by kernel_rfl
@[go_sem] theorem Try.afield243_5 : aField Try.prog 243 5 = some (5, 1) := by kernel_rfl
@[go_sem] theorem Try.afield243_6 : aField Try.prog 243 6 = some (6, 1) := by kernel_rfl
@[go_sem] theorem Try.afield243_7 : aField Try.prog 243 7 = some (7, 1) := by kernel_rfl
@[go_sem] theorem Try.afield243_8 : aField Try.prog 243 8 = some (8, 1) := by kernel_rfl
@[go_sem] theorem Try.afield243_9 : aField Try.prog 243 9 = some (9, 1) := by kernel_rfl
@[go_sem] theorem Try.afield243_10 : aField Try.prog 243 10 = some (10, 1) := by kernel_rfl
@[go_sem] theorem Try.afieldsok243 : aFieldsOk Try.prog 243 = true := by kernel_rfl
@[go_sem] theorem Try.azero243 : aZero Try.prog 243 = some [.sc (.int .u64 (0)), .sc (.int .u64 (0)), .sc (.int .u32 (0)), .sc (.int .u8 (0)), .sc (.int .u8 (0)), .sc (.int .u8 (0)), .sc (.int .u8 (0)), .sc .nilFunc, .sc (.pointer none), .sc (.int .i32 (0)), .sc (.int .i32 (0))] := by kernel_rfl
@[go_sem] theorem Try.asize244 : aSize Try.prog 244 = some 11 := by kernel_rfl
@[go_sem] theorem Try.abytes244 : aBytes Try.prog 244 = some 48 := by kernel_rfl
@[go_sem] theorem Try.aagg244 : aAgg Try.prog 244 = some true := by kernel_rfl
@[go_sem] theorem Try.afield244_0 : aField Try.prog 244 0 = some (0, 1) := by kernel_rfl
@[go_sem] theorem Try.afield244_1 : aField Try.prog 244 1 = some (1, 1) := by kernel_rfl
@[go_sem] theorem Try.afield244_2 : aField Try.prog 244 2 = some (2, 1) := by kernel_rfl
@[go_sem] theorem Try.afield244_3 : aField Try.prog 244 3 = some (3, 1) := by kernel_rfl
@[go_sem] theorem Try.afield244_4 : aField Try.prog 244 4 = some (4, 1) := by kernel_rfl
@[go_sem] theorem Try.afield244_5 : aField Try.prog 244 5 = some (5, 1) := by kernel_rfl
@[go_sem] theorem Try.afield244_6 : aField Try.prog 244 6 = some (6, 1) := by kernel_rfl
@[go_sem] theorem Try.afield244_7 : aField Try.prog 244 7 = some (7, 1) := by kernel_rfl
@[go_sem] theorem Try.afield244_8 : aField Try.prog 244 8 = some (8, 1) := by kernel_rfl
@[go_sem] theorem Try.afield244_9 : aField Try.prog 244 9 = some (9, 1) := by kernel_rfl
@[go_sem] theorem Try.afield244_10 : aField Try.prog 244 10 = some (10, 1) := by kernel_rfl
@[go_sem] theorem Try.afieldsok244 : aFieldsOk Try.prog 244 = true := by kernel_rfl
@[go_sem] theorem Try.azero244 : aZero Try.prog 244 = some [.sc (.int .u64 (0)), .sc (.int .u64 (0)), .sc (.int .u32 (0)), .sc (.int .u8 (0)), .sc (.int .u8 (0)), .sc (.int .u8 (0)), .sc (.int .u8 (0)), .sc .nilFunc, .sc (.pointer none), .sc (.int .i32 (0)), .sc (.int .i32 (0))] := by kernel_rfl
@[go_sem] theorem Try.asize245 : aSize Try.prog 245 = some 1 := by kernel_rfl
@[go_sem] theorem Try.abytes245 : aBytes Try.prog 245 = some 8 := by kernel_rfl
@[go_sem] theorem Try.aagg245 : aAgg Try.prog 245 = some false := by kernel_rfl
@[go_sem] theorem Try.azero245 : aZero Try.prog 245 = some [.sc (.pointer none)] := by kernel_rfl
@[go_sem] theorem Try.abody2 : aBody Try.prog 2 = true := by kernel_rfl
@[go_sem] theorem Try.abody3 : aBody Try.prog 3 = true := by kernel_rfl
@[go_sem] theorem Try.abody4 : aBody Try.prog 4 = true := by kernel_rfl
@[go_sem] theorem Try.abody5 : aBody Try.prog 5 = true := by kernel_rfl
@[go_sem] theorem Try.abody6 : aBody Try.prog 6 = true := by kernel_rfl
@[go_sem] theorem Try.abody7 : aBody Try.prog 7 = true := by kernel_rfl
@[go_sem] theorem Try.abody8 : aBody Try.prog 8 = true := by kernel_rfl
@[go_sem] theorem Try.abody9 : aBody Try.prog 9 = true := by kernel_rfl
@[go_sem] theorem Try.abody10 : aBody Try.prog 10 = true := by kernel_rfl
@[go_sem] theorem Try.abody11 : aBody Try.prog 11 = true := by kernel_rfl
@[go_sem] theorem Try.abody12 : aBody Try.prog 12 = true := by kernel_rfl
@[go_sem] theorem Try.abody13 : aBody Try.prog 13 = true := by kernel_rfl
@[go_sem] theorem Try.abody14 : aBody Try.prog 14 = true := by kernel_rfl
@[go_sem] theorem Try.abody15 : aBody Try.prog 15 = true := by kernel_rfl
@[go_sem] theorem Try.abody16 : aBody Try.prog 16 = true := by kernel_rfl
@[go_sem] theorem Try.abody17 : aBody Try.prog 17 = true := by kernel_rfl
@[go_sem] theorem Try.abody18 : aBody Try.prog 18 = true := by kernel_rfl
@[go_sem] theorem Try.abody19 : aBody Try.prog 19 = true := by kernel_rfl
@[go_sem] theorem Try.abody20 : aBody Try.prog 20 = true := by kernel_rfl
@[go_sem] theorem Try.abody21 : aBody Try.prog 21 = true := by kernel_rfl
@[go_sem] theorem Try.abody22 : aBody Try.prog 22 = true := by kernel_rfl
@[go_sem] theorem Try.abody23 : aBody Try.prog 23 = true := by kernel_rfl
@[go_sem] theorem Try.abody24 : aBody Try.prog 24 = true := by kernel_rfl
@[go_sem] theorem Try.abody25 : aBody Try.prog 25 = true := by kernel_rfl
@[go_sem] theorem Try.abody26 : aBody Try.prog 26 = true := by kernel_rfl
@[go_sem] theorem Try.abody27 : aBody Try.prog 27 = true := by kernel_rfl
@[go_sem] theorem Try.abody28 : aBody Try.prog 28 = true := by kernel_rfl
@[go_sem] theorem Try.abody29 : aBody Try.prog 29 = true := by kernel_rfl
@[go_sem] theorem Try.abody30 : aBody Try.prog 30 = true := by kernel_rfl
@[go_sem] theorem Try.abody31 : aBody Try.prog 31 = true := by kernel_rfl
@[go_sem] theorem Try.abody32 : aBody Try.prog 32 = true := by kernel_rfl
@[go_sem] theorem Try.abody33 : aBody Try.prog 33 = true := by kernel_rfl
@[go_sem] theorem Try.abody34 : aBody Try.prog 34 = true := by kernel_rfl
@[go_sem] theorem Try.abody35 : aBody Try.prog 35 = true := by kernel_rfl
@[go_sem] theorem Try.abody36 : aBody Try.prog 36 = true := by kernel_rfl
@[go_sem] theorem Try.abody37 : aBody Try.prog 37 = true := by kernel_rfl
@[go_sem] theorem Try.abody38 : aBody Try.prog 38 = true := by kernel_rfl
@[go_sem] theorem Try.abody39 : aBody Try.prog 39 = true := by kernel_rfl
@[go_sem] theorem Try.abody40 : aBody Try.prog 40 = true := by kernel_rfl
@[go_sem] theorem Try.abody41 : aBody Try.prog 41 = true := by kernel_rfl
@[go_sem] theorem Try.abody42 : aBody Try.prog 42 = true := by kernel_rfl
@[go_sem] theorem Try.abody43 : aBody Try.prog 43 = true := by kernel_rfl
@[go_sem] theorem Try.abody44 : aBody Try.prog 44 = true := by kernel_rfl
@[go_sem] theorem Try.abody45 : aBody Try.prog 45 = true := by kernel_rfl
@[go_sem] theorem Try.abody46 : aBody Try.prog 46 = true := by kernel_rfl
@[go_sem] theorem Try.abody47 : aBody Try.prog 47 = true := by kernel_rfl
@[go_sem] theorem Try.abody48 : aBody Try.prog 48 = true := by kernel_rfl
@[go_sem] theorem Try.abody49 : aBody Try.prog 49 = true := by kernel_rfl
@[go_sem] theorem Try.abody50 : aBody Try.prog 50 = true := by kernel_rfl
@[go_sem] theorem Try.abody51 : aBody Try.prog 51 = true := by kernel_rfl
@[go_sem] theorem Try.abody52 : aBody Try.prog 52 = true := by kernel_rfl
@[go_sem] theorem Try.abody53 : aBody Try.prog 53 = true := by kernel_rfl
@[go_sem] theorem Try.abody54 : aBody Try.prog 54 = true := by kernel_rfl
@[go_sem] theorem Try.abody55 : aBody Try.prog 55 = true := by kernel_rfl
@[go_sem] theorem Try.abody56 : aBody Try.prog 56 = true := by kernel_rfl
@[go_sem] theorem Try.abody57 : aBody Try.prog 57 = true := by kernel_rfl
@[go_sem] theorem Try.abody58 : aBody Try.prog 58 = true := by kernel_rfl
@[go_sem] theorem Try.abody59 : aBody Try.prog 59 = true := by kernel_rfl
@[go_sem] theorem Try.abody60 : aBody Try.prog 60 = true := by kernel_rfl
@[go_sem] theorem Try.abody61 : aBody Try.prog 61 = true := by kernel_rfl
@[go_sem] theorem Try.abody62 : aBody Try.prog 62 = true := by kernel_rfl
@[go_sem] theorem Try.abody63 : aBody Try.prog 63 = true := by kernel_rfl
@[go_sem] theorem Try.abody64 : aBody Try.prog 64 = true := by kernel_rfl
@[go_sem] theorem Try.abody65 : aBody Try.prog 65 = true := by kernel_rfl
@[go_sem] theorem Try.abody66 : aBody Try.prog 66 = true := by kernel_rfl
@[go_sem] theorem Try.abody67 : aBody Try.prog 67 = true := by kernel_rfl
@[go_sem] theorem Try.abody68 : aBody Try.prog 68 = true := by kernel_rfl
@[go_sem] theorem Try.abody69 : aBody Try.prog 69 = true := by kernel_rfl
@[go_sem] theorem Try.abody70 : aBody Try.prog 70 = true := by kernel_rfl
@[go_sem] theorem Try.abody71 : aBody Try.prog 71 = true := by kernel_rfl
@[go_sem] theorem Try.abody72 : aBody Try.prog 72 = true := by kernel_rfl
@[go_sem] theorem Try.abody73 : aBody Try.prog 73 = true := by kernel_rfl
@[go_sem] theorem Try.abody74 : aBody Try.prog 74 = true := by kernel_rfl
@[go_sem] theorem Try.abody75 : aBody Try.prog 75 = true := by kernel_rfl
@[go_sem] theorem Try.abody76 : aBody Try.prog 76 = true := by kernel_rfl
@[go_sem] theorem Try.abody77 : aBody Try.prog 77 = true := by kernel_rfl
@[go_sem] theorem Try.abody78 : aBody Try.prog 78 = true := by kernel_rfl
@[go_sem] theorem Try.abody79 : aBody Try.prog 79 = true := by kernel_rfl
@[go_sem] theorem Try.abody80 : aBody Try.prog 80 = true := by kernel_rfl
@[go_sem] theorem Try.abody81 : aBody Try.prog 81 = true := by kernel_rfl
@[go_sem] theorem Try.abody82 : aBody Try.prog 82 = true := by kernel_rfl
@[go_sem] theorem Try.abody83 : aBody Try.prog 83 = true := by kernel_rfl
@[go_sem] theorem Try.abody84 : aBody Try.prog 84 = true := by kernel_rfl
@[go_sem] theorem Try.abody85 : aBody Try.prog 85 = true := by kernel_rfl
@[go_sem] theorem Try.abody86 : aBody Try.prog 86 = true := by kernel_rfl
@[go_sem] theorem Try.abody87 : aBody Try.prog 87 = true := by kernel_rfl
@[go_sem] theorem Try.abody88 : aBody Try.prog 88 = true := by kernel_rfl
@[go_sem] theorem Try.abody89 : aBody Try.prog 89 = true := by kernel_rfl
@[go_sem] theorem Try.abody90 : aBody Try.prog 90 = true := by kernel_rfl
@[go_sem] theorem Try.abody91 : aBody Try.prog 91 = true := by kernel_rfl
@[go_sem] theorem Try.abody92 : aBody Try.prog 92 = true := by kernel_rfl
@[go_sem] theorem Try.abody93 : aBody Try.prog 93 = true := by kernel_rfl
@[go_sem] theorem Try.abody94 : aBody Try.prog 94 = true := by kernel_rfl
@[go_sem] theorem Try.abody95 : aBody Try.prog 95 = true := by kernel_rfl
@[go_sem] theorem Try.abody96 : aBody Try.prog 96 = true := by kernel_rfl
@[go_sem] theorem Try.abody97 : aBody Try.prog 97 = true := by kernel_rfl
@[go_sem] theorem Try.abody98 : aBody Try.prog 98 = true := by kernel_rfl
@[go_sem] theorem Try.abody99 : aBody Try.prog 99 = true := by kernel_rfl
@[go_sem] theorem Try.abody100 : aBody Try.prog 100 = true := by kernel_rfl
@[go_sem] theorem Try.abody101 : aBody Try.prog 101 = true := by kernel_rfl
@[go_sem] theorem Try.abody102 : aBody Try.prog 102 = true := by kernel_rfl
@[go_sem] theorem Try.abody103 : aBody Try.prog 103 = true := by kernel_rfl
@[go_sem] theorem Try.abody104 : aBody Try.prog 104 = true := by kernel_rfl
@[go_sem] theorem Try.abody105 : aBody Try.prog 105 = true := by kernel_rfl
@[go_sem] theorem Try.abody106 : aBody Try.prog 106 = true := by kernel_rfl
@[go_sem] theorem Try.abody107 : aBody Try.prog 107 = true := by kernel_rfl
@[go_sem] theorem Try.abody108 : aBody Try.prog 108 = true := by kernel_rfl
@[go_sem] theorem Try.abody109 : aBody Try.prog 109 = true := by kernel_rfl
@[go_sem] theorem Try.abody110 : aBody Try.prog 110 = true := by kernel_rfl
@[go_sem] theorem Try.abody111 : aBody Try.prog 111 = true := by kernel_rfl
@[go_sem] theorem Try.abody112 : aBody Try.prog 112 = true := by kernel_rfl
@[go_sem] theorem Try.abody113 : aBody Try.prog 113 = true := by kernel_rfl
@[go_sem] theorem Try.abody114 : aBody Try.prog 114 = true := by kernel_rfl
@[go_sem] theorem Try.abody115 : aBody Try.prog 115 = true := by kernel_rfl
@[go_sem] theorem Try.abody116 : aBody Try.prog 116 = true := by kernel_rfl
@[go_sem] theorem Try.abody117 : aBody Try.prog 117 = true := by kernel_rfl
@[go_sem] theorem Try.abody118 : aBody Try.prog 118 = true := by kernel_rfl
@[go_sem] theorem Try.abody119 : aBody Try.prog 119 = true := by kernel_rfl
@[go_sem] theorem Try.abody120 : aBody Try.prog 120 = true := by kernel_rfl
@[go_sem] theorem Try.abody121 : aBody Try.prog 121 = true := by kernel_rfl
@[go_sem] theorem Try.abody122 : aBody Try.prog 122 = true := by kernel_rfl
@[go_sem] theorem Try.abody123 : aBody Try.prog 123 = true := by kernel_rfl
@[go_sem] theorem Try.abody124 : aBody Try.prog 124 = true := by kernel_rfl
@[go_sem] theorem Try.abody125 : aBody Try.prog 125 = true := by kernel_rfl
@[go_sem] theorem Try.abody126 : aBody Try.prog 126 = true := by kernel_rfl
@[go_sem] theorem Try.abody127 : aBody Try.prog 127 = true := by kernel_rfl
@[go_sem] theorem Try.abody128 : aBody Try.prog 128 = true := by kernel_rfl
@[go_sem] theorem Try.abody129 : aBody Try.prog 129 = true := by kernel_rfl
@[go_sem] theorem Try.abody130 : aBody Try.prog 130 = true := by kernel_rfl
@[go_sem] theorem Try.abody131 : aBody Try.prog 131 = true := by kernel_rfl
@[go_sem] theorem Try.abody132 : aBody Try.prog 132 = true := by kernel_rfl
@[go_sem] theorem Try.abody133 : aBody Try.prog 133 = true := by kernel_rfl
@[go_sem] theorem Try.abody134 : aBody Try.prog 134 = true := by kernel_rfl
@[go_sem] theorem Try.abody135 : aBody Try.prog 135 = true := by kernel_rfl
@[go_sem] theorem Try.abody136 : aBody Try.prog 136 = true := by kernel_rfl
@[go_sem] theorem Try.abody137 : aBody Try.prog 137 = true := by kernel_rfl
@[go_sem] theorem Try.abody138 : aBody Try.prog 138 = true := by kernel_rfl
@[go_sem] theorem Try.abody139 : aBody Try.prog 139 = true := by kernel_rfl
@[go_sem] theorem Try.abody140 : aBody Try.prog 140 = true := by kernel_rfl
@[go_sem] theorem Try.abody141 : aBody Try.prog 141 = true := by kernel_rfl
@[go_sem] theorem Try.abody142 : aBody Try.prog 142 = true := by kernel_rfl
@[go_sem] theorem Try.abody143 : aBody Try.prog 143 = true := by kernel_rfl
@[go_sem] theorem Try.abody144 : aBody Try.prog 144 = true := by kernel_rfl
@[go_sem] theorem Try.abody145 : aBody Try.prog 145 = true := by kernel_rfl
@[go_sem] theorem Try.abody146 : aBody Try.prog 146 = true := by kernel_rfl
@[go_sem] theorem Try.abody147 : aBody Try.prog 147 = true := by kernel_rfl
@[go_sem] theorem Try.abody148 : aBody Try.prog 148 = true := by kernel_rfl
@[go_sem] theorem Try.abody149 : aBody Try.prog 149 = true := by kernel_rfl
@[go_sem] theorem Try.abody150 : aBody Try.prog 150 = true := by kernel_rfl
@[go_sem] theorem Try.abody151 : aBody Try.prog 151 = true := by kernel_rfl
@[go_sem] theorem Try.abody152 : aBody Try.prog 152 = true := by kernel_rfl
@[go_sem] theorem Try.abody153 : aBody Try.prog 153 = true := by kernel_rfl
@[go_sem] theorem Try.abody154 : aBody Try.prog 154 = true := by kernel_rfl
@[go_sem] theorem Try.abody155 : aBody Try.prog 155 = true := by kernel_rfl
@[go_sem] theorem Try.abody156 : aBody Try.prog 156 = true := by kernel_rfl
@[go_sem] theorem Try.abody157 : aBody Try.prog 157 = true := by kernel_rfl
@[go_sem] theorem Try.abody158 : aBody Try.prog 158 = true := by kernel_rfl
@[go_sem] theorem Try.abody159 : aBody Try.prog 159 = true := by kernel_rfl
@[go_sem] theorem Try.abody160 : aBody Try.prog 160 = true := by kernel_rfl
@[go_sem] theorem Try.abody161 : aBody Try.prog 161 = true := by kernel_rfl
@[go_sem] theorem Try.abody162 : aBody Try.prog 162 = true := by kernel_rfl
@[go_sem] theorem Try.abody163 : aBody Try.prog 163 = true := by kernel_rfl
@[go_sem] theorem Try.abody164 : aBody Try.prog 164 = true := by kernel_rfl
@[go_sem] theorem Try.abody165 : aBody Try.prog 165 = true := by kernel_rfl
@[go_sem] theorem Try.abody166 : aBody Try.prog 166 = true := by kernel_rfl
@[go_sem] theorem Try.abody167 : aBody Try.prog 167 = true := by kernel_rfl
@[go_sem] theorem Try.abody168 : aBody Try.prog 168 = true := by kernel_rfl
@[go_sem] theorem Try.abody169 : aBody Try.prog 169 = true := by kernel_rfl
@[go_sem] theorem Try.abody170 : aBody Try.prog 170 = true := by kernel_rfl
@[go_sem] theorem Try.abody171 : aBody Try.prog 171 = true := by kernel_rfl
@[go_sem] theorem Try.abody172 : aBody Try.prog 172 = true := by kernel_rfl
@[go_sem] theorem Try.abody173 : aBody Try.prog 173 = true := by kernel_rfl
@[go_sem] theorem Try.mixed : Try.prog.follows .mixedOrders = true := by kernel_rfl
end Go.Proofs
