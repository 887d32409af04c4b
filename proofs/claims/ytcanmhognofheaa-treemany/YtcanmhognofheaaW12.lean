/- Closed runs: wild, for each number; what is known of 'of', for the runs; lives. -/
import Derived.Test.YtcanmhognofheaaM4
import Derived.Test.YtcanmhognofheaaA9
set_option linter.all false
set_option linter.unusedSimpArgs false
set_option maxRecDepth 100000
namespace Go.Proofs
open Go Go.AL
theorem wild_c (n : Nat) (hn : n ≤ 5) (K : SV → St → Prop) (st : St) (h : K (.slice .full 6 ((List.replicate n anyN).map nodeSV)) st) : ACalls Try.prog 20 [.sc (.int .i64 n)] K st := by
  have key : checkT Try.prog {} 200 20 [.sc (.int .i64 (n : Int))] (.slice .full 6 ((List.replicate n anyN).map nodeSV)) = true := by
    match n,hn with
    | 0,_ => decide +kernel
    | 1,_ => decide +kernel
    | 2,_ => decide +kernel
    | 3,_ => decide +kernel
    | 4,_ => decide +kernel
    | 5,_ => decide +kernel
  exact acalls_checkT cfg_none Try.mixed 200 key h
end Go.Proofs
