/- Trees as plain functions: what the walks of tree.* compute. -/
import Derived.Test.YtcanmhognofheaaW21
import Derived.Test.YtcanmhognofheaaAX
set_option linter.all false
set_option linter.unusedVariables false
namespace Go.Proofs
open Go Go.AL
structure Eqs where
  sm : Nd → Nd → Bool
  fc : ByteArray → Option Cn
mutual
inductive Tr where
  | mk (row : Int) (path : List Int) (cases : List Cs) (rest : List Tr)
inductive Cs where
  | mk (con : ByteArray) (number : Int) (tree : Tr)
end
structure Cel where
  pat : Nd
  path : List Int
instance : Inhabited Cel := ⟨⟨default,[]⟩⟩
structure Rw where
  cols : List Cel
  pl : Int
instance : Inhabited Rw := ⟨⟨[],0⟩⟩
def cnOf (E : Eqs) (p : Nd) : Cn := (E.fc p.text).getD default
def colK (rows : List Rw) (k : Nat) : List Nd := rows.map fun r => (r.cols.getD k default).pat
def headsL (E : Eqs) (acc : List Nd) : List Nd → List Nd
  | [] => acc
  | p :: r => headsL E (if !looseB p && !(acc.any fun o => E.sm o p) then acc ++ [p] else acc) r
def insR (f : Nd → Int) (x : Nd) : List Nd → List Nd
  | [] => [x]
  | y :: r => if f x < f y then y :: insR f x r else x :: y :: r
def insAll (f : Nd → Int) (acc : List Nd) : List Nd → List Nd
  | [] => acc.reverse
  | x :: r => insAll f (insR f x acc) r
def sortF (f : Nd → Int) (L : List Nd) : List Nd := insAll f [] L
def headsK (E : Eqs) (rows : List Rw) (k : Nat) : List Nd :=
  let o := headsL E [] (colK rows k)
  if !o.isEmpty && (o.getD 0 default).kind == 5 then sortF (fun n => (cnOf E n).tag) o else o
def intoL (c : Cel) (head : Nd) : List Cel :=
  (List.range head.kids.length).map fun (i : Nat) => ⟨if looseB c.pat then anyN else c.pat.kids.getD i default,c.path ++ [(i : Int)]⟩
def mayB (E : Eqs) (c : Cel) (head : Nd) : Bool := looseB c.pat || E.sm c.pat head
def underK (E : Eqs) (rows : List Rw) (k : Nat) (head : Nd) : List Rw :=
  (rows.filter fun r => mayB E (r.cols.getD k default) head).map fun r => ⟨r.cols.take k ++ intoL (r.cols.getD k default) head ++ r.cols.drop (k + 1),r.pl⟩
def othersK (rows : List Rw) (k : Nat) : List Rw :=
  (rows.filter fun r => looseB (r.cols.getD k default).pat).map fun r => ⟨r.cols.take k ++ r.cols.drop (k + 1),r.pl⟩
def okK (E : Eqs) (rows : List Rw) (k : Nat) (heads : List Nd) : Bool :=
  decide (rows.length ≤ 100) && rows.all (fun r => decide (k < r.cols.length) && decide (r.cols.length ≤ 100) && decide ((r.cols.getD k default).path.length ≤ 100)
    && heads.all fun h => decide (h.kids.length ≤ 10) && (looseB (r.cols.getD k default).pat || !E.sm (r.cols.getD k default).pat h || decide (h.kids.length ≤ (r.cols.getD k default).pat.kids.length)))
def buildAll (E : Eqs) (f : List Rw → Nat → Option (Tr × Nat)) (rows : List Rw) (k : Nat) : List Nd → List Cs → Nat → Option (List Cs × Nat)
  | [],acc,m => some (acc,m)
  | h :: r,acc,m => match f (underK E rows k h) m with
    | none => none
    | some (t,m') => buildAll E f rows k r (acc ++ [.mk h.text h.number t]) m'
def buildE (E : Eqs) : Nat → List Rw → Nat → Option (Tr × Nat)
  | 0,_,_ => none
  | b + 1,rows,m =>
    if 100000 < m then none else
    if rows.isEmpty || decide (300 < m + 1) then some (.mk (-1) [] [] [],m + 1)
    else if 100 < (rows.getD 0 default).cols.length then none
    else match (rows.getD 0 default).cols.findIdx? (fun c => !looseB c.pat) with
      | none => some (.mk (rows.getD 0 default).pl [] [] [],m + 1)
      | some k =>
        if okK E rows k (headsK E rows k) && decide ((headsK E rows k).length ≤ 12) && !(headsK E rows k).isEmpty && decide ((headsL E [] (colK rows k)).length ≤ 12) then
          match buildAll E (buildE E b) rows k (headsK E rows k) [] (m + 1) with
          | none => none
          | some (cs,m2) =>
            if ((headsK E rows k).getD 0 default).kind == 1 || decide (((headsK E rows k).length : Int) < (cnOf E ((headsK E rows k).getD 0 default)).many) then
              match buildE E b (othersK rows k) m2 with
              | none => none
              | some (t,m3) => some (.mk 0 ((rows.getD 0 default).cols.getD k default).path cs [t],m3)
            else some (.mk 0 ((rows.getD 0 default).cols.getD k default).path cs [],m2)
        else none
def startR (rows : List Nd) : List Rw := (List.range rows.length).map fun (i : Nat) => ⟨[⟨rows.getD i default,[]⟩],i⟩
def leftR (E : Eqs) (rows : List Rw) (k : Nat) (head : Nd) (rest : Bool) : List Rw :=
  (rows.filter fun r => if rest then looseB (r.cols.getD k default).pat else looseB (r.cols.getD k default).pat || E.sm (r.cols.getD k default).pat head).map fun r =>
    ⟨r.cols.take k ++ (if rest then [] else intoL (r.cols.getD k default) head) ++ r.cols.drop (k + 1),r.pl⟩
def tagOf (E : Eqs) (rows : List Rw) (k : Nat) (tag : Int) : Option Nd :=
  (colK rows k).find? fun p => !looseB p && (cnOf E p).tag == tag
def tagsR (E : Eqs) (f : List Rw → Nat → Option (Tr × Nat)) (rows : List Rw) (k : Nat) : Nat → Int → List Cs → Nat → Option (List Cs × Nat)
  | 0,_,acc,m => some (acc,m)
  | n + 1,tag,acc,m => match tagOf E rows k tag with
    | none => tagsR E f rows k n (tag + 1) acc m
    | some p => match f (leftR E rows k p false) m with
      | none => none
      | some (t,m') => tagsR E f rows k n (tag + 1) (acc ++ [.mk p.text 0 t]) m'
def okR (E : Eqs) (rows : List Rw) (k : Nat) : Bool :=
  (colK rows k).all fun p => looseB p || (p.kind == 5 && (E.fc p.text).isSome)
def buildR (E : Eqs) : Nat → List Rw → Nat → Option (Tr × Nat)
  | 0,_,_ => none
  | b + 1,rows,m =>
    if 100000 < m then none else
    if rows.isEmpty || decide (300 < m + 1) then some (.mk (-1) [] [] [],m + 1)
    else if 100 < (rows.getD 0 default).cols.length then none
    else match (rows.getD 0 default).cols.findIdx? (fun c => !looseB c.pat) with
      | none => some (.mk (rows.getD 0 default).pl [] [] [],m + 1)
      | some k =>
        if okK E rows k (colK rows k) && okR E rows k then
          match tagsR E (buildR E b) rows k (cnOf E ((rows.getD 0 default).cols.getD k default).pat).many.toNat 0 [] (m + 1) with
          | none => none
          | some (cs,m2) =>
            if decide ((cs.length : Int) < (cnOf E ((rows.getD 0 default).cols.getD k default).pat).many) then
              match buildR E b (leftR E rows k default true) m2 with
              | none => none
              | some (t,m3) => some (.mk 0 ((rows.getD 0 default).cols.getD k default).path cs [t],m3)
            else some (.mk 0 ((rows.getD 0 default).cols.getD k default).path cs [],m2)
        else none
mutual
def sameT : Tr → Tr → Bool
  | .mk r p c q,.mk r' p' c' q' => p == p' && r == r' && sameCs c c' && sameTs q q'
def sameCs : List Cs → List Cs → Bool
  | [],[] => true
  | .mk c n t :: l,.mk c' n' t' :: l' => sameT t t' && c.data.toList == c'.data.toList && n == n' && sameCs l l'
  | _,_ => false
def sameTs : List Tr → List Tr → Bool
  | [],[] => true
  | t :: l,t' :: l' => sameT t t' && sameTs l l'
  | _,_ => false
end
def sT := bs [84,114,117,101]
def sF := bs [70,97,108,115,101]
def sC := bs [67,111,110,115]
def sN := bs [78,105,108]
def oneRow (i : Nat) : Nat → Nd → Nd
  | 0,p => p
  | k + 1,p => oneRow i k (conN sC [if k == (i + i / 7 + 1) % 7 then conN sF [] else if k == i % 7 then conN sT [] else anyN,p])
def manyRows (n : Nat) : List Nd := (List.range n).map fun i => oneRow i 7 (conN sN [])
mutual
def fewT : Tr → Bool
  | .mk r p c q => decide (p.length ≤ 1000) && decide (c.length ≤ 1000) && decide (q.length ≤ 1000) && fewCs c && fewTs q
def fewCs : List Cs → Bool
  | [] => true
  | .mk _ _ t :: l => fewT t && fewCs l
def fewTs : List Tr → Bool
  | [] => true
  | t :: l => fewT t && fewTs l
end
def lawT (E : Eqs) (n : Nat) : Bool :=
  match buildE E 100 (startR (manyRows n)) 0,buildR E 100 (startR (manyRows n)) 0 with
  | some (a,m),some (b,m') => decide (m ≤ 300) && decide (m' ≤ 300) && sameT a b && fewT a
  | _,_ => false
def sameBd (a b : Nd) : Bool := (a.kind == b.kind && a.text.data.toList == b.text.data.toList) && a.number == b.number
def findCd (cons : List Cn) (name : ByteArray) : Option Cn := cons.find? fun c => c.name.data.toList == name.data.toList
def eqsF : Eqs := ⟨sameBd,findCd consL⟩
def eqsS : Eqs := ⟨sameB,findC consL⟩
theorem sameB_d : sameB = sameBd := by
  funext a b; simp only [sameB,sameBd,ByteArray.toList_eq]
theorem findC_d : findC = findCd := by
  funext a b; simp only [findC,findCd,ByteArray.toList_eq]
theorem eqs_d : eqsS = eqsF := by unfold eqsS eqsF; rw [sameB_d,findC_d]
end Go.Proofs
