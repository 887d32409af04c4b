/- Nodes with few kids; the elements of texts and nodes in memory. -/
import Derived.Test.YtkokccjfpebomaaGreatDoorW0
import Derived.Test.YtkokccjfpebomaaGreatDoorP8
set_option linter.unusedSimpArgs false
set_option linter.unusedVariables false
namespace Go.AL
inductive Few (N:Nat):Nd→Prop where
 | mk (n:Nd) (h:∀ c∈n.kids,Few N c) (h1:n.kids.length≤N) (h2:n.names.length≤N):Few N n
theorem Pl.few {T:List Tk} {n:Nd} (h:Pl T n) {N:Nat} (hN:T.length+3≤N):Few N n:=by
 induction h with
 | mk n h h1 h2 h3 h4 ih=>exact .mk n ih (Nat.le_trans h3 hN) (Nat.le_trans h4 hN)
theorem uA (N:Nat):Few N J9 :=.mk _ (fun c hc=>by cases hc) (Nat.zero_le _) (Nat.zero_le _)
end Go.AL
namespace Go.Proofs
open Go Go.AL Tryz
theorem Da {l:List Tx} {i:Nat} (h:i<l.length):(l.map qD).getD i .any = .sc (.string (ba l[i])):=by simp[List.getD_eq_getElem?_getD,h,qD]
theorem XD {l:List Nd} {i:Nat} (h:i<l.length):(l.map zJ).getD i .any=zJ l[i]:=by simp[List.getD_eq_getElem?_getD,h]
end Go.Proofs
