/- Types as data, and as what stands for them in memory; plain laws on how great they are. -/
import Derived.Test.YteclbnjpijakbaaDoorW2
import Derived.Test.YteclbnjpijakbaaDoorA8
set_option linter.unusedSimpArgs false
namespace Go.AL

inductive Ty where
  | mk (v : Int) (name : ByteArray) (args : List Ty)

namespace Ty
def v : Ty → Int | mk v _ _ => v
def name : Ty → ByteArray | mk _ n _ => n
def args : Ty → List Ty | mk _ _ l => l
end Ty

instance : Inhabited Ty := ⟨.mk 0 ⟨#[]⟩ []⟩

mutual
def tySV : Ty → SV
  | .mk v n l => .agg [.sc (.int .i64 v), .sc (.string n), .slice .imm 3 (tyL l)]
def tyL : List Ty → List SV
  | [] => []
  | n :: r => tySV n :: tyL r
end

theorem tyL_eq (l : List Ty) : tyL l = l.map tySV := by
  induction l with
  | nil => rfl
  | cons n r ih => simp [tyL, ih]

def tysSV (l : List Ty) : SV := .slice .imm 3 (l.map tySV)

theorem tySV_eq (n : Ty) : tySV n = .agg [.sc (.int .i64 n.v), .sc (.string n.name), .slice .imm 3 (n.args.map tySV)] := by
  cases n; simp [tySV, tyL_eq, Ty.v, Ty.name, Ty.args]
theorem cells_ty (n : Ty) : (tySV n).cells = [.sc (.int .i64 n.v), .sc (.string n.name), .slice .imm 3 (n.args.map tySV)] := by
  rw [tySV_eq]; rfl

theorem norm_ty (n : Ty) : norm (tySV n) = tySV n := by rw [tySV_eq]; rfl
theorem norm1_ty (n : Ty) : norm1 (tySV n) = tySV n := by rw [tySV_eq]; rfl
theorem shape_ty (n : Ty) : shapeOk (tySV n) = true := by rw [tySV_eq]; rfl
theorem elem_ty (n : Ty) : elemOk (tySV n) = true := by rw [tySV_eq]; rfl
theorem strip_ty (n : Ty) : strip (tySV n) = tySV n := by rw [tySV_eq]; rfl
theorem gIf_ty (n : Ty) (p : Prop) : gIf p (tySV n) = True := by rw [tySV_eq]; rfl
theorem ty_take (n : Ty) : (tySV n).cells.take 1 = [.sc (.int .i64 n.v)] := by rw [cells_ty]; rfl
theorem ty_drop1 (n : Ty) : (tySV n).cells.drop 1 = [.sc (.string n.name), .slice .imm 3 (n.args.map tySV)] := by rw [cells_ty]; rfl
theorem ty_drop2 (n : Ty) : (tySV n).cells.drop 2 = [.slice .imm 3 (n.args.map tySV)] := by rw [cells_ty]; rfl
theorem ty_len (n : Ty) : (tySV n).cells.length = 3 := by rw [cells_ty]; rfl
theorem all_ty (n : Ty) : (tySV n).cells.all cellOk = true := elem_ty n
theorem splice_ty (l : List SV) (c : Ty) (h : l.length = 3) : splice l 0 (tySV c).cells = (tySV c).cells := by
  simp [splice, ty_len, h]
theorem cellsOf_ty {P : Program} {t : TypeId} (n : Ty) (h1 : aAgg P t = some true) (h2 : aSize P t = some 3) : cellsOf P t (tySV n).cells = some (tySV n) := by
  rw [cells_ty, tySV_eq]
  simp [cellsOf, h1, h2]

theorem getD_mapT {α : Type} [Inhabited α] (f : α → SV) {l : List α} {i : Nat} (h : i < l.length) : (l.map f).getD i .any = f (l.getD i default) := by
  simp [List.getD_eq_getElem?_getD, h]

mutual
theorem ids_ty (n : Nat) : ∀ x : Ty, Ids n (tySV x)
  | .mk k t ks => by
    simp only [tySV, ids_agg, List.forall_mem_cons, ids_sc, true_and]
    exact ⟨ids_slice (.inl rfl) (ids_tyL n ks), fun x hx => by cases hx⟩
theorem ids_tyL (n : Nat) : ∀ l : List Ty, ∀ x ∈ tyL l, ∀ y ∈ x.cells, Ids n y
  | [] => fun x hx => by cases hx
  | a :: r => fun x hx y hy => by
    simp only [tyL, List.mem_cons] at hx
    rcases hx with rfl | hx
    · have := ids_ty n a
      rw [tySV_eq, ids_agg] at this
      rw [cells_ty] at hy
      exact this y hy
    · exact ids_tyL n r x hx y hy
end

theorem ids_tys (n : Nat) (m : AL.Mode) (hm : m = .imm ∨ m = .full) (l : List Ty) : Ids n (.slice m 3 (l.map tySV)) := by
  have := ids_tyL n l
  rw [tyL_eq] at this
  exact ids_slice hm this

theorem ids_ty' (n : Nat) (x : Ty) : Ids n (tySV x) = True := eq_true (ids_ty n x)
theorem ids_tys' (n : Nat) (l : List Ty) : Ids n (.slice .imm 3 (l.map tySV)) = True := eq_true (ids_tys n _ (.inl rfl) l)

attribute [go_sem] norm_ty norm1_ty shape_ty elem_ty strip_ty gIf_ty ty_take ty_drop1 ty_drop2 ty_len all_ty splice_ty cellsOf_ty ids_ty' ids_tys'

/-! How great a type is. -/
mutual
def nd : Ty → Nat
  | .mk _ _ l => 1 + ndL l
def ndL : List Ty → Nat
  | [] => 0
  | t :: r => nd t + ndL r
end
mutual
def dp : Ty → Nat
  | .mk _ _ l => 1 + dpL l
def dpL : List Ty → Nat
  | [] => 0
  | t :: r => max (dp t) (dpL r)
end
mutual
def goodB (p : Int → Bool) : Ty → Bool
  | .mk v n l => if v = 0 then !(n.toList == ByteArray.toList ⟨#[]⟩) && goodL p l else (n.toList == ByteArray.toList ⟨#[]⟩) && (l.length == 0) && p v
def goodL (p : Int → Bool) : List Ty → Bool
  | [] => true
  | t :: r => goodB p t && goodL p r
end
theorem nd_eq (t : Ty) : nd t = 1 + ndL t.args := by cases t; rfl
theorem dp_eq (t : Ty) : dp t = 1 + dpL t.args := by cases t; rfl
theorem goodB_eq (p : Int → Bool) (t : Ty) : goodB p t = if t.v = 0 then !(t.name.toList == ByteArray.toList ⟨#[]⟩) && goodL p t.args else (t.name.toList == ByteArray.toList ⟨#[]⟩) && (t.args.length == 0) && p t.v := by cases t; rw [goodB]; rfl

theorem ndL_app (a b : List Ty) : ndL (a ++ b) = ndL a + ndL b := by
  induction a with
  | nil => simp [ndL]
  | cons x r ih => simp only [List.cons_append, ndL, ih]; omega
theorem dpL_app (a b : List Ty) : dpL (a ++ b) = max (dpL a) (dpL b) := by
  induction a with
  | nil => simp [dpL]
  | cons x r ih => simp only [List.cons_append, dpL, ih]; omega
theorem goodL_app (p : Int → Bool) (a b : List Ty) : goodL p (a ++ b) = (goodL p a && goodL p b) := by
  induction a with
  | nil => simp [goodL]
  | cons x r ih => simp only [List.cons_append, goodL, ih, Bool.and_assoc]
theorem nd_pos (t : Ty) : 1 ≤ nd t := by rw [nd_eq]; omega
theorem dp_pos (t : Ty) : 1 ≤ dp t := by rw [dp_eq]; omega
theorem nd_mem {t : Ty} : ∀ {l : List Ty}, t ∈ l → nd t ≤ ndL l
  | x :: r, h => by
    rcases List.mem_cons.1 h with rfl | h
    · simp only [ndL]; omega
    · have := nd_mem h; simp only [ndL]; omega
theorem dp_mem {t : Ty} : ∀ {l : List Ty}, t ∈ l → dp t ≤ dpL l
  | x :: r, h => by
    rcases List.mem_cons.1 h with rfl | h
    · simp only [dpL]; omega
    · have := dp_mem h; simp only [dpL]; omega
theorem good_mem {p : Int → Bool} {t : Ty} : ∀ {l : List Ty}, t ∈ l → goodL p l = true → goodB p t = true
  | x :: r, h, hg => by
    rw [goodL, Bool.and_eq_true] at hg
    rcases List.mem_cons.1 h with rfl | h
    · exact hg.1
    · exact good_mem h hg.2

/-- May a type be, whose variables may be? -/
def mayB (p : Int → Bool) (t : Ty) : Bool := goodB p t && (decide (dp t ≤ 40) && decide (nd t ≤ 200))

theorem take_snocT (l : List Ty) {k : Nat} (h : k < l.length) : l.take (k + 1) = l.take k ++ [l.getD k default] := by
  rw [List.take_succ_eq_append_getElem h]; simp [List.getD_eq_getElem?_getD, h]

/-- What measure tells. -/
def Meas (p : Int → Bool) (left : Nat) (t : Ty) (d n : Int) (ok : Bool) : Prop :=
  if ok then goodB p t = true ∧ dp t ≤ left + 1 ∧ n = nd t ∧ d = dp t ∧ nd t ≤ 201 * (left + 1) else ¬ (goodB p t = true ∧ dp t ≤ left + 1 ∧ nd t ≤ 200)

/-- What count tells. -/
def Coun (deep : Nat) (t : Ty) (c : Int) : Prop := 0 ≤ c ∧ c ≤ 201 * (deep + 1) ∧ if c ≤ 200 then c = nd t ∧ dp t ≤ deep else ¬ (nd t ≤ 200 ∧ dp t ≤ deep)

end Go.AL
