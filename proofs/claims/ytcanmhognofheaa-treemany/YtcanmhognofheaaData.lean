/- Nodes and constructors as data, and as what stands for them in memory. -/
import Derived.Test.YtcanmhognofheaaA9
set_option linter.all false
namespace Go.AL
inductive Nd where
  | mk (kind : Int) (text : ByteArray) (number at_ : Int) (names : List ByteArray) (kids : List Nd)
namespace Nd
def kind : Nd → Int | mk k _ _ _ _ _ => k
def text : Nd → ByteArray | mk _ t _ _ _ _ => t
def number : Nd → Int | mk _ _ n _ _ _ => n
def at_ : Nd → Int | mk _ _ _ a _ _ => a
def names : Nd → List ByteArray | mk _ _ _ _ ns _ => ns
def kids : Nd → List Nd | mk _ _ _ _ _ ks => ks
end Nd
instance : Inhabited Nd := ⟨.mk 0 ⟨#[]⟩ 0 0 [] []⟩
def strsSV (l : List ByteArray) : SV := .slice .imm 1 (l.map fun s => .sc (.string s))
mutual
def nodeSV : Nd → SV
  | .mk k t n a ns ks => .agg [.sc (.int .i64 k),.sc (.string t),.sc (.int .i64 n),.sc (.int .i64 a),strsSV ns,.slice .imm 6 (nodeL ks)]
def nodeL : List Nd → List SV
  | [] => []
  | n :: r => nodeSV n :: nodeL r
end
theorem nodeL_eq (l : List Nd) : nodeL l = l.map nodeSV := by
  induction l with
  | nil => rfl
  | cons n r ih => simp [nodeL,ih]
def nodesSV (l : List Nd) : SV := .slice .imm 6 (l.map nodeSV)
def rowsSV (l : List (List Nd)) : SV := .slice .imm 1 (l.map nodesSV)
theorem nodeSV_eq (n : Nd) : nodeSV n = .agg [.sc (.int .i64 n.kind),.sc (.string n.text),.sc (.int .i64 n.number),.sc (.int .i64 n.at_),strsSV n.names,nodesSV n.kids] := by
  cases n; simp [nodeSV,nodesSV,nodeL_eq,Nd.kind,Nd.text,Nd.number,Nd.at_,Nd.names,Nd.kids]
theorem cells_node (n : Nd) : (nodeSV n).cells = [.sc (.int .i64 n.kind),.sc (.string n.text),.sc (.int .i64 n.number),.sc (.int .i64 n.at_),strsSV n.names,nodesSV n.kids] := by
  rw [nodeSV_eq]; rfl
theorem cells_nodes (l : List Nd) : (nodesSV l).cells = [nodesSV l] := rfl
theorem norm_node (n : Nd) : norm (nodeSV n) = nodeSV n := by rw [nodeSV_eq]; rfl
theorem shape_node (n : Nd) : shapeOk (nodeSV n) = true := by rw [nodeSV_eq]; rfl
theorem elem_node (n : Nd) : elemOk (nodeSV n) = true := by rw [nodeSV_eq]; rfl
theorem getD_map' {α : Type} [Inhabited α] (f : α → SV) {l : List α} {i : Nat} (h : i < l.length) : (l.map f).getD i .any = f (l.getD i default) := by
  simp [List.getD_eq_getElem?_getD,h]
mutual
theorem ids_node (n : Nat) : ∀ x : Nd,Ids n (nodeSV x)
  | .mk k t m a ns ks => by
    simp only [nodeSV,ids_agg,List.forall_mem_cons,ids_sc,true_and]
    refine ⟨ids_slice (.inl rfl) fun x hx y hy => ?_,ids_slice (.inl rfl) (ids_nodeL n ks),fun x hx => by cases hx⟩
    obtain ⟨s,_,rfl⟩ := List.mem_map.1 hx
    simp only [SV.cells,List.mem_singleton] at hy
    subst hy
    exact .sc _
theorem ids_nodeL (n : Nat) : ∀ l : List Nd,∀ x ∈ nodeL l,∀ y ∈ x.cells,Ids n y
  | [] => fun x hx => by cases hx
  | a :: r => fun x hx y hy => by
    simp only [nodeL,List.mem_cons] at hx
    rcases hx with rfl | hx
    · have := ids_node n a
      rw [nodeSV_eq,ids_agg] at this
      rw [cells_node] at hy
      exact this y hy
    · exact ids_nodeL n r x hx y hy
end
theorem ids_nodes (n : Nat) (l : List Nd) : Ids n (nodesSV l) := by
  have := ids_nodeL n l
  rw [nodeL_eq] at this
  exact ids_slice (.inl rfl) this
theorem ids_rows (n : Nat) (l : List (List Nd)) : Ids n (rowsSV l) := by
  refine ids_slice (.inl rfl) fun x hx y hy => ?_
  obtain ⟨r,_,rfl⟩ := List.mem_map.1 hx
  rw [cells_nodes] at hy
  simp only [List.mem_singleton] at hy
  subst hy
  exact ids_nodes n r
theorem cellsOf_node {P : Program} {t : TypeId} (n : Nd) (h1 : aAgg P t = some true) (h2 : aSize P t = some 6) : cellsOf P t (nodeSV n).cells = some (nodeSV n) := by
  rw [nodeSV_eq]; simp [cellsOf,h1,h2,SV.cells]
theorem strip_node (n : Nd) : strip (nodeSV n) = nodeSV n := by rw [nodeSV_eq]; rfl
theorem gIf_node (n : Nd) (p : Prop) : gIf p (nodeSV n) = True := by rw [nodeSV_eq]; rfl
theorem node_take (n : Nd) : (nodeSV n).cells.take 1 = [.sc (.int .i64 n.kind)] := by rw [cells_node]; rfl
theorem node_drop1 (n : Nd) : (nodeSV n).cells.drop 1 = [.sc (.string n.text),.sc (.int .i64 n.number),.sc (.int .i64 n.at_),strsSV n.names,nodesSV n.kids] := by rw [cells_node]; rfl
theorem node_drop2 (n : Nd) : (nodeSV n).cells.drop 2 = [.sc (.int .i64 n.number),.sc (.int .i64 n.at_),strsSV n.names,nodesSV n.kids] := by rw [cells_node]; rfl
theorem node_drop3 (n : Nd) : (nodeSV n).cells.drop 3 = [.sc (.int .i64 n.at_),strsSV n.names,nodesSV n.kids] := by rw [cells_node]; rfl
theorem node_drop4 (n : Nd) : (nodeSV n).cells.drop 4 = [strsSV n.names,nodesSV n.kids] := by rw [cells_node]; rfl
theorem node_drop5 (n : Nd) : (nodeSV n).cells.drop 5 = [nodesSV n.kids] := by rw [cells_node]; rfl
theorem node_len (n : Nd) : (nodeSV n).cells.length = 6 := by rw [cells_node]; rfl
attribute [go_sem] norm_node shape_node elem_node cellsOf_node strip_node gIf_node node_take node_drop1 node_drop2 node_drop3 node_drop4 node_drop5 node_len nodesSV rowsSV strsSV
structure Cn where
  name : ByteArray
  of_ : ByteArray
  tag : Int
  arity : Int
  many : Int
instance : Inhabited Cn := ⟨⟨⟨#[]⟩,⟨#[]⟩,0,0,0⟩⟩
def conSV (c : Cn) : SV := .agg [.sc (.string c.name),.sc (.string c.of_),.sc (.int .i64 c.tag),.sc (.int .i64 c.arity),.sc (.int .i64 c.many)]
def consSV (l : List Cn) : SV := .slice .imm 5 (l.map conSV)
theorem ids_con (n : Nat) (c : Cn) : Ids n (conSV c) = True := eq_true (by simp only [conSV,go_sem])
theorem norm_con (c : Cn) : norm (conSV c) = conSV c := rfl
theorem cellsOf_con {P : Program} {t : TypeId} (c : Cn) (h1 : aAgg P t = some true) (h2 : aSize P t = some 5) : cellsOf P t (conSV c).cells = some (conSV c) := by
  simp [cellsOf,h1,h2,SV.cells,conSV]
theorem con_take (c : Cn) : (conSV c).cells.take 1 = [.sc (.string c.name)] := rfl
theorem con_drop1 (c : Cn) : (conSV c).cells.drop 1 = [.sc (.string c.of_),.sc (.int .i64 c.tag),.sc (.int .i64 c.arity),.sc (.int .i64 c.many)] := rfl
theorem con_drop2 (c : Cn) : (conSV c).cells.drop 2 = [.sc (.int .i64 c.tag),.sc (.int .i64 c.arity),.sc (.int .i64 c.many)] := rfl
theorem con_drop3 (c : Cn) : (conSV c).cells.drop 3 = [.sc (.int .i64 c.arity),.sc (.int .i64 c.many)] := rfl
theorem con_drop4 (c : Cn) : (conSV c).cells.drop 4 = [.sc (.int .i64 c.many)] := rfl
theorem con_len (c : Cn) : (conSV c).cells.length = 5 := rfl
theorem shape_con (c : Cn) : shapeOk (conSV c) = true := rfl
theorem elem_con (c : Cn) : elemOk (conSV c) = true := rfl
theorem all_con (c : Cn) : (conSV c).cells.all cellOk = true := rfl
theorem all_node (n : Nd) : (nodeSV n).cells.all cellOk = true := elem_node n
theorem strip_con (c : Cn) : strip (conSV c) = conSV c := rfl
theorem norm1_con (c : Cn) : norm1 (conSV c) = conSV c := rfl
theorem norm1_node (n : Nd) : norm1 (nodeSV n) = nodeSV n := by rw [nodeSV_eq]; rfl
attribute [go_sem] norm1_con norm1_node ids_con norm_con cellsOf_con con_take con_drop1 con_drop2 con_drop3 con_drop4 con_len shape_con elem_con all_con all_node strip_con consSV
end Go.AL
