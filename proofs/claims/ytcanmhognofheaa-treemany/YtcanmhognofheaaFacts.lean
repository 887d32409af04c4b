/- The facts on the types of this seat's program that the walks ask: printed by facts.sh, each reckoned by the kernel. -/
import Derived.Test.YtcanmhognofheaaProg
import Derived.Test.YtcanmhognofheaaA9
import Derived.KernelRfl
set_option linter.all false
namespace Go.Proofs
open Go Go.AL
@[go_sem] theorem Try.asize3 : aSize Try.prog 3 = some 1 := by kernel_rfl
@[go_sem] theorem Try.abytes3 : aBytes Try.prog 3 = some 8 := by kernel_rfl
@[go_sem] theorem Try.aagg3 : aAgg Try.prog 3 = some false := by kernel_rfl
@[go_sem] theorem Try.azero3 : aZero Try.prog 3 = some [.sc (.int .i64 (0))] := by kernel_rfl
@[go_sem] theorem Try.asize9 : aSize Try.prog 9 = some 1 := by kernel_rfl
@[go_sem] theorem Try.aagg9 : aAgg Try.prog 9 = some false := by kernel_rfl
@[go_sem] theorem Try.asize22 : aSize Try.prog 22 = some 1 := by kernel_rfl
@[go_sem] theorem Try.aagg22 : aAgg Try.prog 22 = some false := by kernel_rfl
@[go_sem] theorem Try.aelem22 : aElem Try.prog 22 = some 41 := by kernel_rfl
@[go_sem] theorem Try.asize24 : aSize Try.prog 24 = some 1 := by kernel_rfl
@[go_sem] theorem Try.abytes24 : aBytes Try.prog 24 = some 24 := by kernel_rfl
@[go_sem] theorem Try.aagg24 : aAgg Try.prog 24 = some false := by kernel_rfl
@[go_sem] theorem Try.aelem24 : aElem Try.prog 24 = some 27 := by kernel_rfl
@[go_sem] theorem Try.azero24 : aZero Try.prog 24 = some [.slice .full 0 []] := by kernel_rfl
@[go_sem] theorem Try.asize25 : aSize Try.prog 25 = some 1 := by kernel_rfl
@[go_sem] theorem Try.aagg25 : aAgg Try.prog 25 = some false := by kernel_rfl
@[go_sem] theorem Try.aelem25 : aElem Try.prog 25 = some 9 := by kernel_rfl
@[go_sem] theorem Try.asize27 : aSize Try.prog 27 = some 6 := by kernel_rfl
@[go_sem] theorem Try.abytes27 : aBytes Try.prog 27 = some 88 := by kernel_rfl
@[go_sem] theorem Try.aagg27 : aAgg Try.prog 27 = some true := by kernel_rfl
@[go_sem] theorem Try.afield27_0 : aField Try.prog 27 0 = some (0,1) := by kernel_rfl
@[go_sem] theorem Try.afield27_1 : aField Try.prog 27 1 = some (1,1) := by kernel_rfl
@[go_sem] theorem Try.afield27_2 : aField Try.prog 27 2 = some (2,1) := by kernel_rfl
@[go_sem] theorem Try.afield27_4 : aField Try.prog 27 4 = some (4,1) := by kernel_rfl
@[go_sem] theorem Try.afield27_5 : aField Try.prog 27 5 = some (5,1) := by kernel_rfl
@[go_sem] theorem Try.afieldsok27 : aFieldsOk Try.prog 27 = true := by kernel_rfl
@[go_sem] theorem Try.azero27 : aZero Try.prog 27 = some [.sc (.int .i64 (0)),.sc (.string ⟨#[]⟩),.sc (.int .i64 (0)),.sc (.int .i64 (0)),.slice .full 0 [],.slice .full 0 []] := by kernel_rfl
@[go_sem] theorem Try.asize29 : aSize Try.prog 29 = some 1 := by kernel_rfl
@[go_sem] theorem Try.aagg29 : aAgg Try.prog 29 = some false := by kernel_rfl
@[go_sem] theorem Try.aelem29 : aElem Try.prog 29 = some 3 := by kernel_rfl
@[go_sem] theorem Try.asize30 : aSize Try.prog 30 = some 1 := by kernel_rfl
@[go_sem] theorem Try.aagg30 : aAgg Try.prog 30 = some false := by kernel_rfl
@[go_sem] theorem Try.aelem30 : aElem Try.prog 30 = some 67 := by kernel_rfl
@[go_sem] theorem Try.asize31 : aSize Try.prog 31 = some 1 := by kernel_rfl
@[go_sem] theorem Try.aagg31 : aAgg Try.prog 31 = some false := by kernel_rfl
@[go_sem] theorem Try.aelem31 : aElem Try.prog 31 = some 33 := by kernel_rfl
@[go_sem] theorem Try.asize33 : aSize Try.prog 33 = some 4 := by kernel_rfl
@[go_sem] theorem Try.abytes33 : aBytes Try.prog 33 = some 80 := by kernel_rfl
@[go_sem] theorem Try.aagg33 : aAgg Try.prog 33 = some true := by kernel_rfl
@[go_sem] theorem Try.afield33_0 : aField Try.prog 33 0 = some (0,1) := by kernel_rfl
@[go_sem] theorem Try.afield33_1 : aField Try.prog 33 1 = some (1,1) := by kernel_rfl
@[go_sem] theorem Try.afield33_2 : aField Try.prog 33 2 = some (2,1) := by kernel_rfl
@[go_sem] theorem Try.afield33_3 : aField Try.prog 33 3 = some (3,1) := by kernel_rfl
@[go_sem] theorem Try.afieldsok33 : aFieldsOk Try.prog 33 = true := by kernel_rfl
@[go_sem] theorem Try.azero33 : aZero Try.prog 33 = some [.sc (.int .i64 (0)),.slice .full 0 [],.slice .full 0 [],.slice .full 0 []] := by kernel_rfl
@[go_sem] theorem Try.asize41 : aSize Try.prog 41 = some 5 := by kernel_rfl
@[go_sem] theorem Try.abytes41 : aBytes Try.prog 41 = some 56 := by kernel_rfl
@[go_sem] theorem Try.aagg41 : aAgg Try.prog 41 = some true := by kernel_rfl
@[go_sem] theorem Try.afield41_0 : aField Try.prog 41 0 = some (0,1) := by kernel_rfl
@[go_sem] theorem Try.afield41_1 : aField Try.prog 41 1 = some (1,1) := by kernel_rfl
@[go_sem] theorem Try.afield41_2 : aField Try.prog 41 2 = some (2,1) := by kernel_rfl
@[go_sem] theorem Try.afield41_3 : aField Try.prog 41 3 = some (3,1) := by kernel_rfl
@[go_sem] theorem Try.afield41_4 : aField Try.prog 41 4 = some (4,1) := by kernel_rfl
@[go_sem] theorem Try.afieldsok41 : aFieldsOk Try.prog 41 = true := by kernel_rfl
@[go_sem] theorem Try.azero41 : aZero Try.prog 41 = some [.sc (.string ⟨#[]⟩),.sc (.string ⟨#[]⟩),.sc (.int .i64 (0)),.sc (.int .i64 (0)),.sc (.int .i64 (0))] := by kernel_rfl
@[go_sem] theorem Try.aelem44 : aElem Try.prog 44 = some 49 := by kernel_rfl
@[go_sem] theorem Try.asize46 : aSize Try.prog 46 = some 7 := by kernel_rfl
@[go_sem] theorem Try.abytes46 : aBytes Try.prog 46 = some 112 := by kernel_rfl
@[go_sem] theorem Try.aagg46 : aAgg Try.prog 46 = some true := by kernel_rfl
@[go_sem] theorem Try.afield46_0 : aField Try.prog 46 0 = some (0,6) := by kernel_rfl
@[go_sem] theorem Try.afield46_1 : aField Try.prog 46 1 = some (6,1) := by kernel_rfl
@[go_sem] theorem Try.afieldsok46 : aFieldsOk Try.prog 46 = true := by kernel_rfl
@[go_sem] theorem Try.azero46 : aZero Try.prog 46 = some [.sc (.int .i64 (0)),.sc (.string ⟨#[]⟩),.sc (.int .i64 (0)),.sc (.int .i64 (0)),.slice .full 0 [],.slice .full 0 [],.slice .full 0 []] := by kernel_rfl
@[go_sem] theorem Try.asize47 : aSize Try.prog 47 = some 1 := by kernel_rfl
@[go_sem] theorem Try.aagg47 : aAgg Try.prog 47 = some false := by kernel_rfl
@[go_sem] theorem Try.aelem47 : aElem Try.prog 47 = some 46 := by kernel_rfl
@[go_sem] theorem Try.azero47 : aZero Try.prog 47 = some [.slice .full 0 []] := by kernel_rfl
@[go_sem] theorem Try.asize49 : aSize Try.prog 49 = some 2 := by kernel_rfl
@[go_sem] theorem Try.abytes49 : aBytes Try.prog 49 = some 32 := by kernel_rfl
@[go_sem] theorem Try.aagg49 : aAgg Try.prog 49 = some true := by kernel_rfl
@[go_sem] theorem Try.afield49_0 : aField Try.prog 49 0 = some (0,1) := by kernel_rfl
@[go_sem] theorem Try.afield49_1 : aField Try.prog 49 1 = some (1,1) := by kernel_rfl
@[go_sem] theorem Try.afieldsok49 : aFieldsOk Try.prog 49 = true := by kernel_rfl
@[go_sem] theorem Try.azero49 : aZero Try.prog 49 = some [.slice .full 0 [],.sc (.int .i64 (0))] := by kernel_rfl
@[go_sem] theorem Try.asize50 : aSize Try.prog 50 = some 1 := by kernel_rfl
@[go_sem] theorem Try.aagg50 : aAgg Try.prog 50 = some false := by kernel_rfl
@[go_sem] theorem Try.afield52_0 : aField Try.prog 52 0 = some (0,1) := by kernel_rfl
@[go_sem] theorem Try.afield52_1 : aField Try.prog 52 1 = some (1,1) := by kernel_rfl
@[go_sem] theorem Try.afieldsok52 : aFieldsOk Try.prog 52 = true := by kernel_rfl
@[go_sem] theorem Try.azero52 : aZero Try.prog 52 = some [.slice .full 0 [],.sc (.int .i64 (0))] := by kernel_rfl
@[go_sem] theorem Try.aelem55 : aElem Try.prog 55 = some 60 := by kernel_rfl
@[go_sem] theorem Try.asize57 : aSize Try.prog 57 = some 7 := by kernel_rfl
@[go_sem] theorem Try.abytes57 : aBytes Try.prog 57 = some 112 := by kernel_rfl
@[go_sem] theorem Try.afield57_0 : aField Try.prog 57 0 = some (0,6) := by kernel_rfl
@[go_sem] theorem Try.afield57_1 : aField Try.prog 57 1 = some (6,1) := by kernel_rfl
@[go_sem] theorem Try.afieldsok57 : aFieldsOk Try.prog 57 = true := by kernel_rfl
@[go_sem] theorem Try.azero57 : aZero Try.prog 57 = some [.sc (.int .i64 (0)),.sc (.string ⟨#[]⟩),.sc (.int .i64 (0)),.sc (.int .i64 (0)),.slice .full 0 [],.slice .full 0 [],.slice .full 0 []] := by kernel_rfl
@[go_sem] theorem Try.asize58 : aSize Try.prog 58 = some 1 := by kernel_rfl
@[go_sem] theorem Try.aagg58 : aAgg Try.prog 58 = some false := by kernel_rfl
@[go_sem] theorem Try.aelem58 : aElem Try.prog 58 = some 57 := by kernel_rfl
@[go_sem] theorem Try.asize60 : aSize Try.prog 60 = some 2 := by kernel_rfl
@[go_sem] theorem Try.abytes60 : aBytes Try.prog 60 = some 32 := by kernel_rfl
@[go_sem] theorem Try.afield60_0 : aField Try.prog 60 0 = some (0,1) := by kernel_rfl
@[go_sem] theorem Try.afield60_1 : aField Try.prog 60 1 = some (1,1) := by kernel_rfl
@[go_sem] theorem Try.afieldsok60 : aFieldsOk Try.prog 60 = true := by kernel_rfl
@[go_sem] theorem Try.azero60 : aZero Try.prog 60 = some [.slice .full 0 [],.sc (.int .i64 (0))] := by kernel_rfl
@[go_sem] theorem Try.afield63_0 : aField Try.prog 63 0 = some (0,1) := by kernel_rfl
@[go_sem] theorem Try.afield63_1 : aField Try.prog 63 1 = some (1,1) := by kernel_rfl
@[go_sem] theorem Try.afieldsok63 : aFieldsOk Try.prog 63 = true := by kernel_rfl
@[go_sem] theorem Try.azero63 : aZero Try.prog 63 = some [.slice .full 0 [],.sc (.int .i64 (0))] := by kernel_rfl
@[go_sem] theorem Try.asize67 : aSize Try.prog 67 = some 6 := by kernel_rfl
@[go_sem] theorem Try.abytes67 : aBytes Try.prog 67 = some 104 := by kernel_rfl
@[go_sem] theorem Try.afield67_0 : aField Try.prog 67 0 = some (0,1) := by kernel_rfl
@[go_sem] theorem Try.afield67_1 : aField Try.prog 67 1 = some (1,1) := by kernel_rfl
@[go_sem] theorem Try.afield67_2 : aField Try.prog 67 2 = some (2,4) := by kernel_rfl
@[go_sem] theorem Try.afieldsok67 : aFieldsOk Try.prog 67 = true := by kernel_rfl
@[go_sem] theorem Try.azero67 : aZero Try.prog 67 = some [.sc (.string ⟨#[]⟩),.sc (.int .i64 (0)),.sc (.int .i64 (0)),.slice .full 0 [],.slice .full 0 [],.slice .full 0 []] := by kernel_rfl
@[go_sem] theorem Try.aelem68 : aElem Try.prog 68 = some 71 := by kernel_rfl
@[go_sem] theorem Try.asize71 : aSize Try.prog 71 = some 2 := by kernel_rfl
@[go_sem] theorem Try.abytes71 : aBytes Try.prog 71 = some 40 := by kernel_rfl
@[go_sem] theorem Try.aagg71 : aAgg Try.prog 71 = some true := by kernel_rfl
@[go_sem] theorem Try.afield71_0 : aField Try.prog 71 0 = some (0,1) := by kernel_rfl
@[go_sem] theorem Try.afield71_1 : aField Try.prog 71 1 = some (1,1) := by kernel_rfl
@[go_sem] theorem Try.afieldsok71 : aFieldsOk Try.prog 71 = true := by kernel_rfl
@[go_sem] theorem Try.azero71 : aZero Try.prog 71 = some [.sc (.string ⟨#[]⟩),.slice .full 0 []] := by kernel_rfl
@[go_sem] theorem Try.asize72 : aSize Try.prog 72 = some 1 := by kernel_rfl
@[go_sem] theorem Try.aagg72 : aAgg Try.prog 72 = some false := by kernel_rfl
@[go_sem] theorem Try.aelem72 : aElem Try.prog 72 = some 41 := by kernel_rfl
@[go_sem] theorem Try.asize73 : aSize Try.prog 73 = some 1 := by kernel_rfl
@[go_sem] theorem Try.aagg73 : aAgg Try.prog 73 = some false := by kernel_rfl
@[go_sem] theorem Try.aelem73 : aElem Try.prog 73 = some 24 := by kernel_rfl
@[go_sem] theorem Try.aelem123 : aElem Try.prog 123 = some 47 := by kernel_rfl
@[go_sem] theorem Try.abody4 : aBody Try.prog 4 = true := by kernel_rfl
@[go_sem] theorem Try.abody5 : aBody Try.prog 5 = true := by kernel_rfl
@[go_sem] theorem Try.abody6 : aBody Try.prog 6 = true := by kernel_rfl
@[go_sem] theorem Try.abody7 : aBody Try.prog 7 = true := by kernel_rfl
@[go_sem] theorem Try.abody8 : aBody Try.prog 8 = true := by kernel_rfl
@[go_sem] theorem Try.abody9 : aBody Try.prog 9 = true := by kernel_rfl
@[go_sem] theorem Try.abody10 : aBody Try.prog 10 = true := by kernel_rfl
@[go_sem] theorem Try.abody11 : aBody Try.prog 11 = true := by kernel_rfl
@[go_sem] theorem Try.abody12 : aBody Try.prog 12 = true := by kernel_rfl
@[go_sem] theorem Try.abody13 : aBody Try.prog 13 = true := by kernel_rfl
@[go_sem] theorem Try.abody14 : aBody Try.prog 14 = true := by kernel_rfl
@[go_sem] theorem Try.abody15 : aBody Try.prog 15 = true := by kernel_rfl
@[go_sem] theorem Try.abody16 : aBody Try.prog 16 = true := by kernel_rfl
@[go_sem] theorem Try.abody17 : aBody Try.prog 17 = true := by kernel_rfl
@[go_sem] theorem Try.abody18 : aBody Try.prog 18 = true := by kernel_rfl
@[go_sem] theorem Try.abody19 : aBody Try.prog 19 = true := by kernel_rfl
@[go_sem] theorem Try.abody20 : aBody Try.prog 20 = true := by kernel_rfl
@[go_sem] theorem Try.abody21 : aBody Try.prog 21 = true := by kernel_rfl
@[go_sem] theorem Try.abody22 : aBody Try.prog 22 = true := by kernel_rfl
@[go_sem] theorem Try.abody23 : aBody Try.prog 23 = true := by kernel_rfl
@[go_sem] theorem Try.abody24 : aBody Try.prog 24 = true := by kernel_rfl
@[go_sem] theorem Try.abody25 : aBody Try.prog 25 = true := by kernel_rfl
@[go_sem] theorem Try.abody26 : aBody Try.prog 26 = true := by kernel_rfl
@[go_sem] theorem Try.abody27 : aBody Try.prog 27 = true := by kernel_rfl
@[go_sem] theorem Try.abody28 : aBody Try.prog 28 = true := by kernel_rfl
@[go_sem] theorem Try.abody29 : aBody Try.prog 29 = true := by kernel_rfl
@[go_sem] theorem Try.abody30 : aBody Try.prog 30 = true := by kernel_rfl
@[go_sem] theorem Try.abody31 : aBody Try.prog 31 = true := by kernel_rfl
@[go_sem] theorem Try.abody32 : aBody Try.prog 32 = true := by kernel_rfl
@[go_sem] theorem Try.abody33 : aBody Try.prog 33 = true := by kernel_rfl
@[go_sem] theorem Try.abody34 : aBody Try.prog 34 = true := by kernel_rfl
@[go_sem] theorem Try.abody35 : aBody Try.prog 35 = true := by kernel_rfl
@[go_sem] theorem Try.abody36 : aBody Try.prog 36 = true := by kernel_rfl
@[go_sem] theorem Try.abody37 : aBody Try.prog 37 = true := by kernel_rfl
@[go_sem] theorem Try.abody38 : aBody Try.prog 38 = true := by kernel_rfl
@[go_sem] theorem Try.abody39 : aBody Try.prog 39 = true := by kernel_rfl
@[go_sem] theorem Try.abody40 : aBody Try.prog 40 = true := by kernel_rfl
@[go_sem] theorem Try.abody41 : aBody Try.prog 41 = true := by kernel_rfl
@[go_sem] theorem Try.abody42 : aBody Try.prog 42 = true := by kernel_rfl
@[go_sem] theorem Try.abody43 : aBody Try.prog 43 = true := by kernel_rfl
@[go_sem] theorem Try.abody44 : aBody Try.prog 44 = true := by kernel_rfl
@[go_sem] theorem Try.abody45 : aBody Try.prog 45 = true := by kernel_rfl
@[go_sem] theorem Try.abody46 : aBody Try.prog 46 = true := by kernel_rfl
@[go_sem] theorem Try.abody47 : aBody Try.prog 47 = true := by kernel_rfl
@[go_sem] theorem Try.abody48 : aBody Try.prog 48 = true := by kernel_rfl
@[go_sem] theorem Try.abody49 : aBody Try.prog 49 = true := by kernel_rfl
@[go_sem] theorem Try.abody50 : aBody Try.prog 50 = true := by kernel_rfl
@[go_sem] theorem Try.abody52 : aBody Try.prog 52 = true := by kernel_rfl
@[go_sem] theorem Try.abody53 : aBody Try.prog 53 = true := by kernel_rfl
@[go_sem] theorem Try.abody54 : aBody Try.prog 54 = true := by kernel_rfl
@[go_sem] theorem Try.abody55 : aBody Try.prog 55 = true := by kernel_rfl
@[go_sem] theorem Try.abody56 : aBody Try.prog 56 = true := by kernel_rfl
@[go_sem] theorem Try.abody57 : aBody Try.prog 57 = true := by kernel_rfl
@[go_sem] theorem Try.abody58 : aBody Try.prog 58 = true := by kernel_rfl
@[go_sem] theorem Try.abody59 : aBody Try.prog 59 = true := by kernel_rfl
@[go_sem] theorem Try.abody60 : aBody Try.prog 60 = true := by kernel_rfl
@[go_sem] theorem Try.abody61 : aBody Try.prog 61 = true := by kernel_rfl
@[go_sem] theorem Try.abody62 : aBody Try.prog 62 = true := by kernel_rfl
@[go_sem] theorem Try.abody63 : aBody Try.prog 63 = true := by kernel_rfl
@[go_sem] theorem Try.abody64 : aBody Try.prog 64 = true := by kernel_rfl
@[go_sem] theorem Try.abody65 : aBody Try.prog 65 = true := by kernel_rfl
@[go_sem] theorem Try.abody66 : aBody Try.prog 66 = true := by kernel_rfl
@[go_sem] theorem Try.abody67 : aBody Try.prog 67 = true := by kernel_rfl
@[go_sem] theorem Try.abody68 : aBody Try.prog 68 = true := by kernel_rfl
@[go_sem] theorem Try.abody69 : aBody Try.prog 69 = true := by kernel_rfl
@[go_sem] theorem Try.abody71 : aBody Try.prog 71 = true := by kernel_rfl
@[go_sem] theorem Try.abody72 : aBody Try.prog 72 = true := by kernel_rfl
@[go_sem] theorem Try.abody73 : aBody Try.prog 73 = true := by kernel_rfl
@[go_sem] theorem Try.abody74 : aBody Try.prog 74 = true := by kernel_rfl
@[go_sem] theorem Try.abody75 : aBody Try.prog 75 = true := by kernel_rfl
@[go_sem] theorem Try.abody78 : aBody Try.prog 78 = true := by kernel_rfl
@[go_sem] theorem Try.mixed : Try.prog.follows .mixedOrders = true := by kernel_rfl
end Go.Proofs
