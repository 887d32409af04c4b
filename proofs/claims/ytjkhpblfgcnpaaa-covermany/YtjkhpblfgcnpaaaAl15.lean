/- The abstract layer, part 15: which of a function's new variables are objects: reckoned from its text. (Nothing hangs on whether this is right.) -/
import Derived.Test.YtjkhpblfgcnpaaaAl14
set_option linter.unusedVariables false
namespace Go.AL

def codeOps : Code → List Oper
  | .region _ ops _ => ops.toList
  | .seq a b => codeOps a ++ codeOps b
  | .cond _ a b => codeOps a ++ codeOps b
  | .block _ a => codeOps a
  | .loop a => codeOps a
  | .scope a => codeOps a
  | .rangeFunc _ _ a b => codeOps a ++ codeOps b
  | _ => []

/-- The roots that an operation's operands stand for. -/
def rootsOf (rs : List (Nat × Nat)) : List Operand → List Nat
  | [] => []
  | .tmp t :: r => match rs.lookup t with
    | some d => d :: rootsOf rs r
    | none => rootsOf rs r
  | _ :: r => rootsOf rs r

def marks (rs : List (Nat × Nat)) (ms : List Nat) : List Oper → List Nat
  | [] => ms
  | o :: r => match o.op, o.dst with
    | .box _ x, some d => marks ((d, d) :: rs) (rootsOf rs [x] ++ ms) r
    | .fieldAddr _ (.tmp b) _, some d => match rs.lookup b with
      | some q => marks ((d, q) :: rs) ms r
      | none => marks rs ms r
    | .load _ _, _ => marks rs ms r
    | .indexAddr _ (.tmp b) _, some d => match rs.lookup b with
      | some q => marks ((d, q) :: rs) ms r
      | none => marks rs ms r
    | _, _ => marks rs (rootsOf rs o.op.operands.toList ++ ms) r

def autoM (c : Code) : List Nat := (marks [] [] (codeOps c)).eraseDups

def autoMF (P : Program) (f : FuncId) : List Nat :=
  match P.funcs[f]? with
  | some fn => match fn.body with
    | some c => autoM c
    | none => []
  | none => []

end Go.AL
