/- Columns, rows and trees in memory. -/
import Derived.Test.YtcanmhognofheaaP0
set_option linter.all false
set_option linter.unusedSimpArgs false
set_option linter.unusedVariables false
set_option maxRecDepth 4000
namespace Go.Proofs
open Go Go.AL
abbrev celC (c : Cel) : List SV := [i64 c.pat.kind,str c.pat.text,i64 c.pat.number,i64 c.pat.at_,.slice .imm 1 (c.pat.names.map fun s => .sc (.string s)),.slice .imm 6 (c.pat.kids.map nodeSV),.slice .imm 1 (c.path.map i64)]
def celSV (c : Cel) : SV := .agg [i64 c.pat.kind,str c.pat.text,i64 c.pat.number,i64 c.pat.at_,.slice .imm 1 (c.pat.names.map fun s => .sc (.string s)),.slice .imm 6 (c.pat.kids.map nodeSV),.slice .imm 1 (c.path.map i64)]
def rwSV (r : Rw) : SV := .agg [.slice .imm 7 (r.cols.map celSV),i64 r.pl]
theorem agg_nd (n : Nd) : SV.agg [i64 n.kind,str n.text,i64 n.number,i64 n.at_,.slice .imm 1 (n.names.map fun s => .sc (.string s)),.slice .imm 6 (n.kids.map nodeSV)] = nodeSV n := by rw [nodeSV_eq]; rfl
theorem ids_i64s (n : Nat) (m : AL.Mode) (hm : m = .imm ∨ m = .full) (l : List Int) : Ids n (.slice m 1 (l.map i64)) := ids_slice hm fun x hx y hy => by
  obtain ⟨i,_,rfl⟩ := List.mem_map.1 hx
  simp only [SV.cells,List.mem_singleton] at hy
  subst hy
  exact .sc _
theorem ids_cel (n : Nat) (c : Cel) : Ids n (celSV c) := by
  have h := ids_node n c.pat
  rw [nodeSV_eq,ids_agg] at h
  unfold celSV
  rw [ids_agg]
  intro y hy
  simp only [List.mem_cons,List.not_mem_nil,or_false] at hy
  rcases hy with rfl | rfl | rfl | rfl | rfl | rfl | rfl
  · exact .sc _
  · exact .sc _
  · exact .sc _
  · exact .sc _
  · exact h _ (by simp [strsSV])
  · exact h _ (by simp [nodesSV])
  · exact ids_i64s n .imm (.inl rfl) c.path
theorem ids_cels (n : Nat) (m : AL.Mode) (hm : m = .imm ∨ m = .full) (l : List Cel) : Ids n (.slice m 7 (l.map celSV)) := ids_slice hm fun x hx y hy => by
  obtain ⟨c,_,rfl⟩ := List.mem_map.1 hx
  have := ids_cel n c
  unfold celSV at this hy
  rw [ids_agg] at this
  exact this y hy
theorem ids_rw (n : Nat) (r : Rw) : Ids n (rwSV r) := by
  unfold rwSV
  rw [ids_agg]
  intro y hy
  simp only [List.mem_cons,List.not_mem_nil,or_false] at hy
  rcases hy with rfl | rfl
  · exact ids_cels n .imm (.inl rfl) _
  · exact .sc _
theorem ids_rws (n : Nat) (m : AL.Mode) (hm : m = .imm ∨ m = .full) (l : List Rw) : Ids n (.slice m 2 (l.map rwSV)) := ids_slice hm fun x hx y hy => by
  obtain ⟨c,_,rfl⟩ := List.mem_map.1 hx
  have := ids_rw n c
  unfold rwSV at this hy
  rw [ids_agg] at this
  exact this y hy
theorem cell_cel (c : Cel) : cellsOf Try.prog 46 (celSV c).cells = some (celSV c) := by
  simp [cellsOf,Try.aagg46,Try.asize46,SV.cells,celSV]
theorem cell_nd (n : Nd) : cellsOf Try.prog 27 (nodeSV n).cells = some (nodeSV n) := cellsOf_node n Try.aagg27 Try.asize27
theorem cells_cel (c : Cel) : (celSV c).cells = [i64 c.pat.kind,str c.pat.text,i64 c.pat.number,i64 c.pat.at_,.slice .imm 1 (c.pat.names.map fun s => .sc (.string s)),.slice .imm 6 (c.pat.kids.map nodeSV),.slice .imm 1 (c.path.map i64)] := rfl
theorem norm_cel (c : Cel) : norm (celSV c) = celSV c := rfl
theorem shape_cel (c : Cel) : shapeOk (celSV c) = true := rfl
theorem le_nil (z z' : Nat) : SVle (.slice .full z []) (.slice .imm z' []) := fun _ _ _ _ h => (rep_nil_z (z' := z') h (.inl rfl)).norm1
theorem le_imm (m : AL.Mode) (z : Nat) (l : List SV) : SVle (.slice m z l) (.slice .imm z l) := fun _ _ _ _ h => h.norm1
theorem ids_tuple2 {n : Nat} {x y : SV} (hx : Ids n x) (hy : Ids n y) : Ids n (.tuple [x,y]) := by
  refine .tuple _ fun i hi => ?_
  match i,hi with
  | 0,_ => exact hx
  | 1,_ => exact hy
theorem app44 {n : Nat} (h : n ≤ 1000000) : AppOk Try.prog 44 44 2 n := appOk_of Try.aelem44 Try.aelem44 Try.asize49 Try.azero49 rfl Try.abytes49 (by omega) h
theorem app47 {n : Nat} (h : n ≤ 1000000) : AppOk Try.prog 47 47 7 n := appOk_of Try.aelem47 Try.aelem47 Try.asize46 Try.azero46 rfl Try.abytes46 (by omega) h
theorem app29 {n : Nat} (h : n ≤ 1000000) : AppOk Try.prog 29 29 1 n := appOk_of Try.aelem29 Try.aelem29 Try.asize3 Try.azero3 rfl Try.abytes3 (by omega) h
theorem app30 {n : Nat} (h : n ≤ 1000000) : AppOk Try.prog 30 30 6 n := appOk_of Try.aelem30 Try.aelem30 Try.asize67 Try.azero67 rfl Try.abytes67 (by omega) h
theorem app31 {n : Nat} (h : n ≤ 1000000) : AppOk Try.prog 31 31 4 n := appOk_of Try.aelem31 Try.aelem31 Try.asize33 Try.azero33 rfl Try.abytes33 (by omega) h
theorem app58 {n : Nat} (h : n ≤ 1000000) : AppOk Try.prog 58 58 7 n := appOk_of Try.aelem58 Try.aelem58 Try.asize57 Try.azero57 rfl Try.abytes57 (by omega) h
theorem app55 {n : Nat} (h : n ≤ 1000000) : AppOk Try.prog 55 55 2 n := appOk_of Try.aelem55 Try.aelem55 Try.asize60 Try.azero60 rfl Try.abytes60 (by omega) h
end Go.Proofs
