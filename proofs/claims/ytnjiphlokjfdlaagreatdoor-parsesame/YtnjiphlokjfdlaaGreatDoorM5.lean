import Derived.Test.YtnjiphlokjfdlaaGreatDoorA9
import Derived.Lib.IndexMore
set_option linter.unusedSimpArgs false
set_option linter.unusedVariables false
namespace Go.AL
abbrev Tx := List UInt8
abbrev ba (l : Tx) : ByteArray := ⟨l.toArray⟩
structure Tk where
  kind : Int
  text : Tx
  num : Int
  pos : Int
  deriving DecidableEq
def tk0 : Tk := ⟨0,[],0,0⟩
instance : Inhabited Tk := ⟨tk0⟩
inductive Nd where
  | mk (kind : Int) (text : Tx) (num : Int) (pos : Int) (names : List Tx) (kids : List Nd)
namespace Nd
def kind : Nd → Int | mk k _ _ _ _ _ => k
def text : Nd → Tx | mk _ t _ _ _ _ => t
def num : Nd → Int | mk _ _ n _ _ _ => n
def pos : Nd → Int | mk _ _ _ a _ _ => a
def names : Nd → List Tx | mk _ _ _ _ l _ => l
def kids : Nd → List Nd | mk _ _ _ _ _ l => l
def addKid : Nd → Nd → Nd | mk x t n a l k,c => mk x t n a l (k ++ [c])
def addKids : Nd → List Nd → Nd | mk x t n a l k,c => mk x t n a l (k ++ c)
def addName : Nd → Tx → Nd | mk x t n a l k,c => mk x t n a (l ++ [c]) k
end Nd
def nd0 : Nd := .mk 0 [] 0 0 [] []
instance : Inhabited Nd := ⟨nd0⟩
def nodeF (k a : Int) (t : Tx) (kids : List Nd) : Nd := .mk k t 0 a [] kids
structure PS where
  pos : Nat
  deep : Nat
  flat : Bool
  bad : Int
  e : Int
  deriving DecidableEq
abbrev PM (α : Type) := PS → Option (α × PS)
section
variable (T : List Tk)
def lookF (p : PS) : Option Tk := if p.e = 0 then T[p.pos]? else some tk0
def takeF : PM Tk := fun p => (lookF T p).map fun t => (t,if p.e = 0 ∧ t.kind ≠ 0 then { p with pos := p.pos + 1 } else p)
def isT (t : Tk) (s : Tx) : Bool := (t.kind == 5 || t.kind == 6) && t.text == s
def isF (s : Tx) (p : PS) : Option Bool := (lookF T p).map fun t => isT t s
def failF (e : Int) (p : PS) : Option PS := if p.e = 0 then (T[p.pos]?).map fun t => { p with bad := t.pos,e := e } else some p
def mayF (s : Tx) : PM Bool := fun p => (isF T s p).bind fun b => if b then (takeF T p).map fun r => (true,r.2) else some (false,p)
def mustF (s : Tx) (p : PS) : Option PS := (mayF T s p).bind fun r => if r.1 then some r.2 else failF T 14 r.2
def wordF (k : Int) : PM Tk := fun p => (lookF T p).bind fun t => (if t.kind ≠ k then failF T 14 p else some p).bind fun p1 => takeF T p1
def mostF (n m : Int) (p : PS) : Option PS := if m ≤ n then failF T 16 p else some p
def inF (e : PM Nd) : PM Nd := fun p =>
  (if 40 ≤ p.deep then failF T 15 p else some p).bind fun p1 =>
  if p1.e ≠ 0 then some (nd0,p1) else (e { p1 with deep := p1.deep + 1 }).bind fun r => if r.2.deep = 0 ∨ 1000 < r.2.deep then none else some (r.1,{ r.2 with deep := r.2.deep - 1 })
def roundF (e : PM Nd) : PM Nd := fun p =>
  (mustF T [40] p).bind fun p1 => (inF T e p1).bind fun r => (mustF T [41] r.2).map fun p2 => (r.1,p2)
def leafF (kinds : List (Int × Int)) : PM Nd := fun p =>
  (lookF T p).bind fun t => let k := ((kinds.find? fun q => q.1 == t.kind).map (·.2)).getD 0
    if k = 0 then (failF T 14 p).map fun p1 => (nd0,p1) else (takeF T p).map fun r => (.mk k t.text t.num t.pos [] [],r.2)
def tyL (e : PM Nd) : Nat → Nd → PM Nd
  | 0,_ => fun _ => none
  | n + 1,nd => fun p => (lookF T p).bind fun t =>
    if t.kind = 3 then (takeF T p).bind fun r => tyL e n (nd.addKid (nodeF 27 t.pos t.text [])) r.2
    else (isF T [40] p).bind fun b => if b then (roundF T e p).bind fun r => tyL e n (nd.addKid r.1) r.2 else some (nd,p)
def tyS (e : PM Nd) : PM Nd := fun p => (wordF T 3 p).bind fun r => tyL T e (T.length + 2) (nodeF 27 r.1.pos r.1.text []) r.2
def tyF : Nat → PM Nd
  | 0 => fun _ => none
  | n + 1 => tyS T (tyF n)
def conL (e : PM Nd) : Nat → Bool → Nd → PM Nd
  | 0,_,_ => fun _ => none
  | n + 1,more,nd => fun p => if more ∧ p.e = 0 then (mostF T nd.kids.length 4 p).bind fun p1 => (inF T e p1).bind fun r => (mayF T [44] r.2).bind fun q => conL e n q.1 (nd.addKid r.1) q.2 else some (nd,p)
def conF (e : PM Nd) : PM Nd := fun p => (wordF T 4 p).bind fun r => (mayF T [111,102] r.2).bind fun q =>
  if q.1 then conL T e (T.length + 2) true (nodeF 26 r.1.pos r.1.text []) q.2 else some (nodeF 26 r.1.pos r.1.text [],q.2)
def namesL : Nat → Nd → PM Nd
  | 0,_ => fun _ => none
  | n + 1,nd => fun p => (lookF T p).bind fun t => if t.kind = 3 then (mostF T nd.names.length 4 p).bind fun p1 => (takeF T p1).bind fun r => namesL n (nd.addName r.1.text) r.2 else some (nd,p)
def consL (e : PM Nd) : Nat → Bool → Nd → PM Nd
  | 0,_,_ => fun _ => none
  | n + 1,more,nd => fun p => if more ∧ p.e = 0 then (mostF T nd.kids.length 20 p).bind fun p1 => (conF T e p1).bind fun r => (mayF T [124] r.2).bind fun q => consL e n q.1 (nd.addKid r.1) q.2 else some (nd,p)
def decltypeF (e : PM Nd) : PM Nd := fun p => (takeF T p).bind fun r => (wordF T 3 r.2).bind fun q => (namesL T (T.length + 2) (nodeF 25 r.1.pos q.1.text []) q.2).bind fun u =>
  (mustF T [61] u.2).bind fun p1 => consL T e (T.length + 2) true u.1 p1
def patomF (e : PM Nd) : PM Nd := fun p => (lookF T p).bind fun t => (mayF T [95] p).bind fun q =>
  if q.1 then some (nodeF 24 t.pos [] [],q.2) else (isF T [40] q.2).bind fun b => if b then roundF T e q.2 else leafF T [(1,1),(3,4),(4,5)] q.2
def patMore (p : PS) : Option Bool := (lookF T p).map fun t => isT t [95] || isT t [40] || t.kind == 3 || t.kind == 1 || t.kind == 4
def patL (e : PM Nd) : Nat → Bool → Nd → PM Nd
  | 0,_,_ => fun _ => none
  | n + 1,con,nd => fun p => if con then (patMore T p).bind fun b => if b then (mostF T nd.kids.length 4 p).bind fun p1 => (patomF T e p1).bind fun r => patL e n con (nd.addKid r.1) r.2 else some (nd,p) else some (nd,p)
def patS (e : PM Nd) : PM Nd := fun p => (lookF T p).bind fun t => (patomF T e p).bind fun r => patL T e (T.length + 2) (t.kind == 4) r.1 r.2
def patF : Nat → PM Nd
  | 0 => fun _ => none
  | n + 1 => patS T (patF n)
def wholeF (e : PM Nd) : PM Nd := fun p => (inF T e { p with flat := false }).map fun r => (r.1,{ r.2 with flat := p.flat })
def matchL (e pt : PM Nd) : Nat → Bool → Nd → PM Nd
  | 0,_,_ => fun _ => none
  | n + 1,first,nd => fun p => (if first then some true else isF T [124] p).bind fun b =>
    if b then (mostF T (Int.tdiv nd.kids.length 2) 20 p).bind fun p1 => (mustF T [124] p1).bind fun p2 => (inF T pt p2).bind fun r => (mustF T [45,62] r.2).bind fun p3 => (wholeF T e p3).bind fun q => matchL e pt n false (nd.addKids [r.1,q.1]) q.2
    else some (nd,p)
def matchF (e pt : PM Nd) : PM Nd := fun p => (takeF T p).bind fun r => (wholeF T e r.2).bind fun q => (mustF T [119,105,116,104] q.2).bind fun p1 => (matchL T e pt (T.length + 2) true (nodeF 11 r.1.pos [] [q.1]) p1).bind fun u =>
  (mustF T [101,110,100] u.2).map fun p2 => (u.1,p2)
def tryF (e : PM Nd) : PM Nd := fun p => (takeF T p).bind fun r => (wholeF T e r.2).bind fun q => (mustF T [119,105,116,104] q.2).bind fun p1 => (wordF T 3 p1).bind fun u => (mustF T [45,62] u.2).bind fun p2 =>
  (wholeF T e p2).bind fun v => (mustF T [101,110,100] v.2).map fun p3 => (nodeF 12 r.1.pos u.1.text [q.1,v.1],p3)
def atomF (e pt : PM Nd) : PM Nd := fun p => (lookF T p).bind fun t =>
  if isT t [109,97,116,99,104] then matchF T e pt p
  else if isT t [116,114,121] then tryF T e p
  else if isT t [114,101,116,114,121] then (takeF T p).map fun r => (nodeF 19 t.pos [] [],r.2)
  else if isT t [40] then (takeF T p).bind fun r => (mayF T [41] r.2).bind fun q =>
    if q.1 then some (nodeF 3 t.pos [] [],q.2) else (wholeF T e q.2).bind fun u => (mustF T [41] u.2).map fun p1 => (u.1,p1)
  else leafF T [(1,1),(2,2),(3,4),(4,5)] p
def beginsT (t : Tk) : Bool := t.kind == 1 || t.kind == 2 || t.kind == 3 || t.kind == 4 || isT t [40] || isT t [114,101,116,114,121] || isT t [109,97,116,99,104] || isT t [116,114,121]
def kindF (s : Tx) : Int × Int :=
  if s = [112,114,105,110,116] then (15,1) else if s = [114,97,105,115,101] then (16,1) else if s = [115,112,97,119,110] then (17,1)
  else if s = [97,116,111,109,105,99,97,108,108,121] then (18,1) else if s = [116,118,97,114] then (21,1) else if s = [114,101,97,100] then (22,1)
  else if s = [119,114,105,116,101] then (23,2) else if s = [111,114,101,108,115,101] then (20,2) else (0,0)
def atomsL (e pt : PM Nd) : Nat → Nd → PM Nd
  | 0,nd => fun p => some (nd,p)
  | n + 1,nd => fun p => (atomF T e pt p).bind fun r => atomsL e pt n (nd.addKid r.1) r.2
def appL (e pt : PM Nd) : Nat → Bool → Nd → PM Nd
  | 0,_,_ => fun _ => none
  | n + 1,bare,nd => fun p => (lookF T p).bind fun t => if beginsT t then
      (if bare then (mostF T nd.kids.length 4 p).bind fun p1 => (atomF T e pt p1).bind fun r => appL e pt n bare (nd.addKid r.1) r.2
      else (atomF T e pt p).bind fun r => appL e pt n bare (nodeF 7 nd.pos [] [nd,r.1]) r.2) else some (nd,p)
def appF (e pt : PM Nd) : PM Nd := fun p => (lookF T p).bind fun t =>
  if t.kind = 6 ∧ 0 < (kindF t.text).1 then (takeF T p).bind fun r => atomsL T e pt (kindF t.text).2.toNat (nodeF (kindF t.text).1 t.pos [] []) r.2
  else (atomF T e pt p).bind fun r => appL T e pt (T.length + 2) (t.kind == 4) r.1 r.2
def sumsL (part : PM Nd) (signs : List Tx) : Nat → Tk → Nd → PM Nd
  | 0,_,_ => fun _ => none
  | n + 1,t,nd => fun p => if t.kind = 5 ∧ t.text ∈ signs then (takeF T p).bind fun r => (part r.2).bind fun q => (lookF T q.2).bind fun t' => sumsL part signs n t' (nodeF 13 nd.pos t.text [nd,q.1]) q.2 else some (nd,p)
def sumsF (part : PM Nd) (signs : List Tx) : PM Nd := fun p => (part p).bind fun r => (lookF T r.2).bind fun t => sumsL T part signs (T.length + 2) t r.1 r.2
def signsM : List Tx := [[42],[47],[37]]
def signsP : List Tx := [[43],[45],[94]]
def prodF (e pt : PM Nd) : PM Nd := sumsF T (appF T e pt) signsM
def sumF (e pt : PM Nd) : PM Nd := sumsF T (prodF T e pt) signsP
def cmpF (e pt : PM Nd) : PM Nd := fun p => (sumF T e pt p).bind fun r => (lookF T r.2).bind fun t =>
  if isT t [61] ∨ isT t [60] then (takeF T r.2).bind fun q => (sumF T e pt q.2).map fun u => (nodeF 13 r.1.pos t.text [r.1,u.1],u.2) else some (r.1,r.2)
def valueF (e : PM Nd) : PM (Tx × Bool × Nd) := fun p => (mayF T [114,101,99] p).bind fun r => (wordF T 3 r.2).bind fun q => (mustF T [61] q.2).bind fun p1 =>
  (if r.1 ∧ p1.deep < 40 then (isF T [102,117,110] p1).bind fun b => if b then some p1 else failF T 14 p1 else some p1).bind fun p2 =>
  (inF T e p2).map fun u => ((q.1.text,r.1,u.1),u.2)
def letF (e : PM Nd) : PM Nd := fun p => (takeF T p).bind fun r => (valueF T e r.2).bind fun q => (mustF T [105,110] q.2).bind fun p1 => (inF T e p1).map fun u =>
  (nodeF (if q.1.2.1 then 9 else 8) r.1.pos q.1.1 [q.1.2.2,u.1],u.2)
def funF (e : PM Nd) : PM Nd := fun p => (takeF T p).bind fun r => (wordF T 3 r.2).bind fun q => (mustF T [45,62] q.2).bind fun p1 => (inF T e p1).map fun u => (nodeF 6 r.1.pos q.1.text [u.1],u.2)
def branchF (e : PM Nd) : PM Nd := fun p => (takeF T p).bind fun r => (inF T e r.2).bind fun c => (mustF T [116,104,101,110] c.2).bind fun p1 => (inF T e p1).bind fun a => (mustF T [101,108,115,101] a.2).bind fun p2 =>
  (inF T e p2).map fun b => (nodeF 10 r.1.pos [] [c.1,a.1,b.1],b.2)
def expS (e pt : PM Nd) : PM Nd := fun p => (lookF T p).bind fun t =>
  if t.kind = 6 ∧ t.text = [108,101,116] then letF T e p
  else if t.kind = 6 ∧ t.text = [102,117,110] then funF T e p
  else if t.kind = 6 ∧ t.text = [105,102] then branchF T e p
  else (cmpF T e pt p).bind fun r => (if r.2.flat then some (false,r.2) else mayF T [59] r.2).bind fun q =>
    if q.1 then (inF T e q.2).map fun u => (nodeF 14 r.1.pos [] [r.1,u.1],u.2) else some (r.1,q.2)
def expF : Nat → PM Nd
  | 0 => fun _ => none
  | n + 1 => expS T (expF n) (patF T (n + 1))
def declF (e ty : PM Nd) : PM Nd := fun p => (isF T [116,121,112,101] p).bind fun b =>
  (if b then decltypeF T ty p else (takeF T p).bind fun r => (valueF T e { r.2 with flat := true }).map fun q => (nodeF (if q.1.2.1 then 29 else 28) r.1.pos q.1.1 [q.1.2.2],{ q.2 with flat := false })).bind fun u =>
  (mustF T [59] u.2).map fun p1 => (u.1,p1)
def progL (e ty : PM Nd) : Nat → Nd → PM Nd
  | 0,_ => fun _ => none
  | n + 1,nd => fun p => (isF T [116,121,112,101] p).bind fun a => (if a then some true else isF T [108,101,116] p).bind fun b =>
    if b then (mostF T nd.kids.length 60 p).bind fun p1 => (declF T e ty p1).bind fun r => progL e ty n (nd.addKid r.1) r.2 else some (nd,p)
def progF (e ty : PM Nd) : PM Nd := fun p => (lookF T p).bind fun t => (progL T e ty (T.length + 2) (nodeF 30 t.pos [] []) p).bind fun r => (mustF T [100,111] r.2).bind fun p1 =>
  (inF T e p1).bind fun u => (lookF T u.2).bind fun t' => (if t'.kind ≠ 0 then failF T 14 u.2 else some u.2).map fun p2 => (r.1.addKid u.1,p2)
def parseF : Option (Nd × Int × Int) := (progF T (expF T 42) (tyF T 42) ⟨0,0,false,0,0⟩).map fun r => if r.2.e = 0 then (r.1,0,0) else (nd0,r.2.bad,r.2.e)
end
end Go.AL
namespace Go.AL
def smallB (c : UInt8) : Bool := decide (97 ≤ c) && decide (c ≤ 122)
def largeB (c : UInt8) : Bool := decide (65 ≤ c) && decide (c ≤ 90)
def digitB (c : UInt8) : Bool := decide (48 ≤ c) && decide (c ≤ 57)
def innerB (c : UInt8) : Bool := smallB c || largeB c || digitB c || c == 95
def plainB (c : UInt8) : Bool := decide (32 ≤ c) && decide (c ≤ 126) && c != 34 && c != 92
def skipN : Bool → Tx → Nat
  | _,[] => 0
  | true,c :: r => if c = 10 then skipN false r + 1 else skipN true r + 1
  | false,c :: r => if c = 32 ∨ c = 9 ∨ c = 10 then skipN false r + 1 else if c = 35 then skipN true r + 1 else 0
def spanN (p : UInt8 → Bool) : Tx → Nat
  | [] => 0
  | c :: r => if p c then spanN p r + 1 else 0
def valF (d : Tx) : Nat := d.foldl (fun v c => 10 * v + (c.toNat - 48)) 0
def keysL : List Tx := [[108,101,116],[114,101,99],[105,110],[102,117,110],[105,102],[116,104,101,110],[101,108,115,101],[109,97,116,99,104],[119,105,116,104],[101,110,100],[116,114,121],[112,114,105,110,116],[114,97,105,115,101],[115,112,97,119,110],[97,116,111,109,105,99,97,108,108,121],[114,101,116,114,121],[111,114,101,108,115,101],[116,118,97,114],[114,101,97,100],[119,114,105,116,101],[116,121,112,101],[111,102],[100,111]]
def signsL : Tx := [61,60,43,45,42,47,37,94,59,124,40,41,44,95]
def hexL : Tx := [48,49,50,51,52,53,54,55,56,57,97,98,99,100,101,102]
def hexF (c : UInt8) : Option Nat := hexL.findIdx? (· == c)
def escF : Tx → Except Int (UInt8 × Nat)
  | [] => .error 11
  | c :: r => if c = 110 then .ok (10,1) else if c = 34 then .ok (34,1) else if c = 92 then .ok (92,1) else if c ≠ 120 then .error 10 else
    match r with
    | [] => .error 11
    | a :: r => match hexF a with
      | none => .error 10
      | some x => match r with
        | [] => .error 11
        | b :: _ => match hexF b with
          | none => .error 10
          | some y => .ok (UInt8.ofNat (16 * x + y),3)
def unqL : Nat → Tx → Tx → Nat → Except Int (Tx × Nat)
  | 0,_,_,_ => .error 11
  | _ + 1,[],_,_ => .error 11
  | n + 1,c :: r,b,k => if c = 10 then .error 11 else if c = 34 then (if 60 < b.length then .error 12 else .ok (b,k + 1))
    else if c = 92 then (match escF r with
      | .error e => .error e
      | .ok (x,m) => unqL n (r.drop m) (b ++ [x]) (k + 1 + m))
    else if plainB c then unqL n r (b ++ [c]) (k + 1) else .error 10
def unqF (s : Tx) : Except Int (Tx × Nat) := match s with
  | [] => .error 14
  | c :: r => if c = 34 then unqL (r.length + 1) r [] 1 else .error 14
def tokF (s : Tx) (pos : Int) : Except Int (Tk × Nat) := match s with
  | [] => .error 10
  | c :: r =>
    if digitB c then (if 4611686018427387903 < valF (s.take (spanN digitB s)) then .error 13 else .ok (⟨1,[],valF (s.take (spanN digitB s)),pos⟩,spanN digitB s))
    else if c = 34 then (match unqF s with
      | .error e => .error e
      | .ok (t,n) => .ok (⟨2,t,0,pos⟩,n))
    else if smallB c || largeB c then (if 16 < spanN innerB s then .error 12 else .ok (⟨if largeB c then 4 else if s.take (spanN innerB s) ∈ keysL then 6 else 3,s.take (spanN innerB s),0,pos⟩,spanN innerB s))
    else if c ∈ signsL then (if r.head? = some 62 ∧ c = 45 then .ok (⟨5,[45,62],0,pos⟩,2) else .ok (⟨5,[c],0,pos⟩,1))
    else .error 10
def tokensL : Nat → Tx → Nat → List Tk → Except (Nat × Int) (List Tk)
  | 0,_,_,_ => .error (0,0)
  | n + 1,s,k,out => match s.drop (skipN false s) with
    | [] => .ok (out ++ [⟨0,[],0,((k + skipN false s : Nat) : Int)⟩])
    | c :: r => match tokF (c :: r) ((k + skipN false s : Nat) : Int) with
      | .error e => .error (k + skipN false s,e)
      | .ok (t,m) => tokensL n ((c :: r).drop m) (k + skipN false s + m) (out ++ [t])
def lexF (s : Tx) : Except (Nat × Int) (List Tk) := if 2000 < s.length then .error (0,12) else tokensL (s.length + 1) s 0 []
def programF (s : Tx) : Option (Nd × Int × Int) := match lexF s with
  | .error (a,e) => some (nd0,a,e)
  | .ok T => parseF T
end Go.AL
namespace Go.AL
theorem cont_cons (c : UInt8) (l p : Tx) : Lib.contains (c :: l) p = (p.isPrefixOf (c :: l) || Lib.contains l p) := by
  have h := Lib.index_ge l p
  unfold Lib.contains
  rw [show Lib.index (c :: l) p = if p.isPrefixOf (c :: l) then 0 else if Lib.index l p == -1 then -1 else Lib.index l p + 1 by rw [Lib.index]]
  cases hp : p.isPrefixOf (c :: l) with
  | true => simp
  | false =>
    by_cases h1 : Lib.index l p = -1
    · simp [h1]
    · have h2 : (Lib.index l p == -1) = false := by simp [h1]
      simp only [h2,Bool.false_eq_true,if_false,Bool.false_or]
      rw [decide_eq_decide]; omega
theorem cont_nil (c : UInt8) (p : Tx) : Lib.contains [] (c :: p) = false := by
  simp [Lib.contains,Lib.index]
theorem cont_word (p : Tx) : ∀ (w r : Tx),(∀ c ∈ w,c ≠ 32) → Lib.contains (w ++ r) (32 :: p) = Lib.contains r (32 :: p)
  | [],r,_ => rfl
  | c :: w,r,h => by
    rw [List.cons_append,cont_cons,cont_word p w r fun x hx => h x (List.mem_cons_of_mem _ hx)]
    have : (32 :: p).isPrefixOf (c :: (w ++ r)) = false := by
      rw [List.isPrefixOf]
      have : (32 == c) = false := by
        have := h c List.mem_cons_self
        simp; exact fun e => this e.symm
      rw [this]; rfl
    rw [this,Bool.false_or]
theorem pre_word : ∀ (s w r : Tx),(∀ c ∈ s,c ≠ 32) → (∀ c ∈ w,c ≠ 32) → (s ++ [32]).isPrefixOf (w ++ 32 :: r) = decide (s = w)
  | [],[],r,_,_ => by simp [List.isPrefixOf]
  | [],c :: w,r,_,h => by
    have : (32 == c) = false := by
      have := h c List.mem_cons_self
      simp; exact fun e => this e.symm
    simp [List.isPrefixOf,this]
  | c :: s,[],r,h,_ => by
    have : (c == 32) = false := by
      have := h c List.mem_cons_self
      simp; exact this
    simp [List.isPrefixOf,this]
  | c :: s,d :: w,r,h,k => by
    have ih := pre_word s w r (fun x hx => h x (List.mem_cons_of_mem _ hx)) (fun x hx => k x (List.mem_cons_of_mem _ hx))
    rw [List.cons_append,List.cons_append,List.isPrefixOf,ih]
    by_cases e : c = d
    · subst e; simp
    · simp [e]
def flatK (ws : List Tx) : Tx := ws.flatMap fun w => w ++ [32]
theorem cont_keys (s : Tx) (hs : ∀ c ∈ s,c ≠ 32) : ∀ ws : List Tx,(∀ w ∈ ws,∀ c ∈ w,c ≠ 32) → Lib.contains (32 :: flatK ws) (32 :: (s ++ [32])) = decide (s ∈ ws)
  | [],_ => by
    rw [cont_cons]
    simp only [flatK,List.flatMap_nil,cont_nil,Bool.or_false,List.not_mem_nil,decide_false]
    cases s with
    | nil => rfl
    | cons c s => rfl
  | w :: ws,h => by
    have ih := cont_keys s hs ws fun x hx => h x (List.mem_cons_of_mem _ hx)
    have e : flatK (w :: ws) = w ++ (32 :: flatK ws) := by simp [flatK]
    rw [cont_cons,e,cont_word _ _ _ (h w List.mem_cons_self),ih,List.isPrefixOf,pre_word s w _ hs (h w List.mem_cons_self)]
    by_cases q : s = w
    · subst q; simp
    · simp [q]
def keysText : Tx := [32,108,101,116,32,114,101,99,32,105,110,32,102,117,110,32,105,102,32,116,104,101,110,32,101,108,115,101,32,109,97,116,99,104,32,119,105,116,104,32,101,110,100,32,116,114,121,32,112,114,105,110,116,32,114,97,105,115,101,32,115,112,97,119,110,32,97,116,111,109,105,99,97,108,108,121,32,114,101,116,114,121,32,111,114,101,108,115,101,32,116,118,97,114,32,114,101,97,100,32,119,114,105,116,101,32,116,121,112,101,32,111,102,32,100,111,32]
theorem keys_ok (s : Tx) (hs : ∀ c ∈ s,c ≠ 32) : Lib.contains keysText (32 :: (s ++ [32])) = decide (s ∈ keysL) := by
  have : keysText = 32 :: flatK keysL := by decide
  rw [this]
  exact cont_keys s hs keysL (by decide)
theorem no_blank (s : Tx) (hs : ∀ c ∈ s,c ≠ 32) : Lib.contains s [32] = false := by
  have := cont_word [] s [] hs
  rw [List.append_nil] at this
  rw [this]; exact cont_nil _ _
theorem key_word {l : Tx} : ∀ c ∈ l.take (spanN innerB l),innerB c = true := by
  induction l with
  | nil => intro c hc; cases hc
  | cons d l ih =>
    intro c hc
    unfold spanN at hc
    split at hc
    · rename_i h
      rw [List.take_succ_cons] at hc
      rcases List.mem_cons.1 hc with rfl | hc
      · exact h
      · exact ih c hc
    · cases hc
theorem inner_nb {c : UInt8} (h : innerB c = true) : c ≠ 32 := by rintro rfl; revert h; decide
end Go.AL
namespace Go.AL
theorem val_app1 (a : Tx) (c : UInt8) : valF (a ++ [c]) = 10 * valF a + (c.toNat - 48) := by simp [valF]
theorem val_take {d : Tx} {j : Nat} (h : j < d.length) : valF (d.take (j + 1)) = 10 * valF (d.take j) + (d[j].toNat - 48) := by
  rw [List.take_succ_eq_append_getElem h,val_app1]
theorem val_le : ∀ (b a : Tx),valF a ≤ valF (a ++ b)
  | [],a => by simp
  | c :: b,a => by
    have h := val_le b (a ++ [c])
    rw [List.append_assoc] at h
    rw [val_app1] at h
    simp only [List.cons_append,List.nil_append] at h
    omega
theorem val_take_le (d : Tx) (j : Nat) : valF (d.take j) ≤ valF d := by
  have := val_le (d.drop j) (d.take j)
  rwa [List.take_append_drop] at this
theorem val_zero : ∀ l : Tx,valF (l.dropWhile (· == 48)) = valF l
  | [] => rfl
  | c :: r => by
    rw [List.dropWhile_cons]
    split
    · rename_i h
      rw [val_zero r]
      have : c = 48 := by simpa using h
      subst this
      simp [valF]
    · rfl
def trimD (l : Tx) : Tx := if l.dropWhile (· == 48) = [] then [48] else l.dropWhile (· == 48)
theorem val_trim (l : Tx) : valF (trimD l) = valF l := by
  unfold trimD
  split
  · rename_i h
    rw [← val_zero l,h]; rfl
  · exact val_zero l
theorem drop_head : ∀ l : Tx,l.dropWhile (· == 48) ≠ [] → (l.dropWhile (· == 48)).headD 0 ≠ 48
  | [],h => absurd rfl h
  | c :: r,h => by
    rw [List.dropWhile_cons] at h ⊢
    split
    · rename_i hc
      rw [if_pos hc] at h
      exact drop_head r h
    · rename_i hc
      simpa using hc
theorem trim_ok (l : Tx) (hl : ∀ c ∈ l,digitB c = true) : trimD l ≠ [] ∧ (∀ c ∈ trimD l,digitB c = true) ∧ ((trimD l).headD 0 ≠ 48 ∨ (trimD l).length = 1) := by
  unfold trimD
  split
  · exact ⟨by simp,fun c hc => by simp at hc; subst hc; decide,.inr rfl⟩
  · rename_i h
    exact ⟨h,fun c hc => hl c ((List.dropWhile_sublist _).mem hc),.inl (drop_head l h)⟩
def readF (d : Tx) : Int × Int := if 4611686018427387903 < valF d then (0,13) else (valF d,0)
theorem over_iff (v k : Nat) (hk : k ≤ 9) (hv : v ≤ 4611686018427387904) : (-(v : Int) < Int.tdiv (-4611686018427387904 + (k : Int)) 10) ↔ 4611686018427387904 < 10 * v + k := by
  have h : (-4611686018427387904 + (k : Int)) = -((4611686018427387904 - k : Nat) : Int) := by omega
  rw [h,Int.neg_tdiv,show Int.tdiv ((4611686018427387904 - k : Nat) : Int) 10 = (((4611686018427387904 - k) / 10 : Nat) : Int) by rfl]
  omega
end Go.AL
namespace Go.AL
section
variable (T : List Tk)
def stepR : PM Tk := fun p => (lookF T p).map fun t => if t.kind = 0 then (tk0,p) else (t,{ p with pos := p.pos + 1 })
def textR (k : Int) : PM Tx := fun p => (wordF T k p).map fun r => (r.1.text,r.2)
def atR (p : PS) : Option Int := (lookF T p).map (·.pos)
def deepR (e : PM Nd) : PM Nd := fun p => if 1000 < p.deep then none else
  (if p.deep = 40 then failF T 15 p else some p).bind fun p1 =>
  if p1.e ≠ 0 then some (nd0,p1) else (e { p1 with deep := p1.deep + 1 }).bind fun r => if r.2.deep = 0 ∨ 1000 < r.2.deep then none else some (r.1,{ r.2 with deep := r.2.deep - 1 })
def leafR (k : Int) : PM Nd := fun p => (stepR T p).map fun r => (.mk k r.1.text r.1.num r.1.pos [] [],r.2)
def capR (c : Prop) [Decidable c] (p : PS) : Option PS := if c then failF T 16 p else some p
def tyRL (ty : PM Nd) : Nat → Nd → PM Nd
  | 0,_ => fun _ => none
  | n + 1,nd => fun p => if p.e = 0 then (lookF T p).bind fun t =>
    if t.kind = 3 then (stepR T p).bind fun r => tyRL ty n (nd.addKid (nodeF 27 r.1.pos r.1.text [])) r.2
    else if isT t [40] then (stepR T p).bind fun r => (ty r.2).bind fun q => (mustF T [41] q.2).bind fun p1 => tyRL ty n (nd.addKid q.1) p1 else some (nd,p)
    else some (nd,p)
def tyB (ty : PM Nd) : PM Nd := fun p => (atR T p).bind fun a => (textR T 3 p).bind fun r => tyRL T ty (T.length + 2) (nodeF 27 a r.1 []) r.2
def tyI : Nat → PM Nd
  | 0 => fun _ => none
  | n + 1 => tyB T (deepR T (tyI n))
def conRL (ty : PM Nd) : Nat → Bool → Nd → PM Nd
  | 0,_,_ => fun _ => none
  | n + 1,more,nd => fun p => if more ∧ p.e = 0 then (stepR T p).bind fun r => (capR T (nd.kids.length = 4) r.2).bind fun p1 => (ty p1).bind fun q => (isF T [44] q.2).bind fun b => conRL ty n b (nd.addKid q.1) q.2 else some (nd,p)
def conR (ty : PM Nd) : PM Nd := fun p => (atR T p).bind fun a => (textR T 4 p).bind fun r => (isF T [111,102] r.2).bind fun b => conRL T ty (T.length + 2) b (nodeF 26 a r.1 []) r.2
def namesRL : Nat → Nd → PM Nd
  | 0,_ => fun _ => none
  | n + 1,nd => fun p => (lookF T p).bind fun t => if t.kind = 3 then (if nd.names.length = 4 then (failF T 16 p).map fun p1 => (nd,p1) else (stepR T p).bind fun r => namesRL n (nd.addName r.1.text) r.2) else some (nd,p)
def consRL (ty : PM Nd) : Nat → Bool → Nd → PM Nd
  | 0,_,_ => fun _ => none
  | n + 1,more,nd => fun p => if more ∧ p.e = 0 then (capR T (nd.kids.length = 20) p).bind fun p1 => (conR T ty p1).bind fun r => (mayF T [124] r.2).bind fun q => consRL ty n q.1 (nd.addKid r.1) q.2 else some (nd,p)
def patomR (pt : PM Nd) : PM Nd := fun p => (lookF T p).bind fun t =>
  if t.kind = 1 then leafR T 1 p else if t.kind = 3 then leafR T 4 p else if t.kind = 4 then leafR T 5 p
  else if isT t [95] then (stepR T p).map fun r => (nodeF 24 r.1.pos [] [],r.2)
  else if isT t [40] then (stepR T p).bind fun r => (pt r.2).bind fun q => (mustF T [41] q.2).map fun p1 => (q.1,p1)
  else (failF T 14 p).map fun p1 => (nd0,p1)
def patRL (pt : PM Nd) : Nat → Bool → Nd → PM Nd
  | 0,_,_ => fun _ => none
  | n + 1,con,nd => fun p => if con then (patMore T p).bind fun b => if b then (if nd.kids.length = 4 then (failF T 16 p).map fun p1 => (nd,p1) else (patomR T pt p).bind fun r => patRL pt n con (nd.addKid r.1) r.2) else some (nd,p) else some (nd,p)
def patB (pt : PM Nd) : PM Nd := fun p => (lookF T p).bind fun t => (patomR T pt p).bind fun r => patRL T pt (T.length + 2) (t.kind == 4) r.1 r.2
def patI : Nat → PM Nd
  | 0 => fun _ => none
  | n + 1 => patB T (deepR T (patI n))
def wholeR (e : PM Nd) : PM Nd := fun p => (e { p with flat := false }).map fun r => (r.1,{ r.2 with flat := p.flat })
def matchRL (e pt : PM Nd) : Nat → Bool → Nd → PM Nd
  | 0,_,_ => fun _ => none
  | n + 1,more,nd => fun p => if more then (capR T (nd.kids.length = 41) p).bind fun p1 => (mustF T [124] p1).bind fun p2 => (pt p2).bind fun r => (mustF T [45,62] r.2).bind fun p3 => (wholeR e p3).bind fun q => (isF T [124] q.2).bind fun b =>
      matchRL e pt n b ((nd.addKid r.1).addKid q.1) q.2
    else some (nd,p)
def tryR (e : PM Nd) (a : Int) (x : Nd) : PM Nd := fun p => (textR T 3 p).bind fun u => (mustF T [45,62] u.2).bind fun p2 => (wholeR e p2).bind fun v => (mustF T [101,110,100] v.2).map fun p3 => (nodeF 12 a u.1 [x,v.1],p3)
def matchR (e pt : PM Nd) (a : Int) (x : Nd) : PM Nd := fun p => (matchRL T e pt (T.length + 2) true (nodeF 11 a [] [x]) p).bind fun u => (mustF T [101,110,100] u.2).map fun p2 => (u.1,p2)
def atomR (e pt : PM Nd) : PM Nd := fun p => (lookF T p).bind fun t =>
  if t.kind = 1 then leafR T 1 p else if t.kind = 2 then leafR T 2 p else if t.kind = 3 then leafR T 4 p else if t.kind = 4 then leafR T 5 p
  else if isT t [114,101,116,114,121] then (stepR T p).map fun r => (nodeF 19 t.pos [] [],r.2)
  else if isT t [40] then (stepR T p).bind fun r => (mayF T [41] r.2).bind fun q =>
    if q.1 then some (nodeF 3 t.pos [] [],q.2) else (wholeR e q.2).bind fun u => (mustF T [41] u.2).map fun p1 => (u.1,p1)
  else if isT t [116,114,121] then (stepR T p).bind fun r => (wholeR e r.2).bind fun q => (mustF T [119,105,116,104] q.2).bind fun p1 => tryR T e t.pos q.1 p1
  else if isT t [109,97,116,99,104] then (stepR T p).bind fun r => (wholeR e r.2).bind fun q => (mustF T [119,105,116,104] q.2).bind fun p1 => matchR T e pt t.pos q.1 p1
  else (failF T 14 p).map fun p1 => (nd0,p1)
def kindR (t : Tk) : Int × Int := if t.kind = 5 ∨ t.kind = 6 then kindF t.text else (0,0)
def appRL (e pt : PM Nd) : Nat → Bool → Nd → PM Nd
  | 0,_,_ => fun _ => none
  | n + 1,con,nd => fun p => (lookF T p).bind fun t => if beginsT t then
      (if con then (if nd.kids.length = 4 then (failF T 16 p).map fun p1 => (nd,p1) else (atomR T e pt p).bind fun r => appRL e pt n con (nd.addKid r.1) r.2)
      else (atomR T e pt p).bind fun r => appRL e pt n con (nodeF 7 nd.pos [] [nd,r.1]) r.2) else some (nd,p)
def rappR (e pt : PM Nd) : PM Nd := fun p => (lookF T p).bind fun t =>
  if 0 < (kindR t).1 then (stepR T p).bind fun r => (atomR T e pt r.2).bind fun q => if (kindR t).2 = 2 then (atomR T e pt q.2).map fun u => (nodeF (kindR t).1 r.1.pos [] [q.1,u.1],u.2) else some (nodeF (kindR t).1 r.1.pos [] [q.1],q.2)
  else (atomR T e pt p).bind fun r => appRL T e pt (T.length + 2) (t.kind == 4) r.1 r.2
def opR (t : Tk) (a b c : Tx) : Tx := if isT t a then a else if isT t b then b else if isT t c then c else []
def sumsRL (part : PM Nd) (a b c : Tx) : Nat → Nd → PM Nd
  | 0,_ => fun _ => none
  | n + 1,nd => fun p => (lookF T p).bind fun t => if opR t a b c ≠ [] then (stepR T p).bind fun r => (part r.2).bind fun q => sumsRL part a b c n (nodeF 13 nd.pos (opR t a b c) [nd,q.1]) q.2 else some (nd,p)
def sumsR (part : PM Nd) (a b c : Tx) : PM Nd := fun p => (part p).bind fun r => sumsRL T part a b c (T.length + 2) r.1 r.2
def prodR (e pt : PM Nd) : PM Nd := sumsR T (rappR T e pt) [42] [47] [37]
def sumR (e pt : PM Nd) : PM Nd := sumsR T (prodR T e pt) [43] [45] [94]
def cmpR (e pt : PM Nd) : PM Nd := fun p => (sumR T e pt p).bind fun r => (lookF T r.2).bind fun t => if opR t [61] [60] [61] ≠ [] then (stepR T r.2).bind fun q => (sumR T e pt q.2).map fun u => (nodeF 13 r.1.pos (opR t [61] [60] [61]) [r.1,u.1],u.2) else some (r.1,r.2)
def valueR (e : PM Nd) : PM (Tx × Bool × Nd) := fun p => (mayF T [114,101,99] p).bind fun r => (textR T 3 r.2).bind fun q => (mustF T [61] q.2).bind fun p1 => (isF T [102,117,110] p1).bind fun f =>
  (if r.1 ∧ ¬ f ∧ p1.deep < 40 then failF T 14 p1 else some p1).bind fun p2 => (e p2).map fun u => ((q.1,r.1,u.1),u.2)
def innerR (e pt : PM Nd) : PM Nd := fun p => (lookF T p).bind fun t =>
  if isT t [108,101,116] then (stepR T p).bind fun r => (valueR T e r.2).bind fun q => (mustF T [105,110] q.2).bind fun p1 => (e p1).map fun u => (nodeF (if q.1.2.1 then 9 else 8) t.pos q.1.1 [q.1.2.2,u.1],u.2)
  else if isT t [102,117,110] then (stepR T p).bind fun r => (textR T 3 r.2).bind fun q => (mustF T [45,62] q.2).bind fun p1 => (e p1).map fun u => (nodeF 6 t.pos q.1 [u.1],u.2)
  else if isT t [105,102] then (stepR T p).bind fun r => (e r.2).bind fun c => (mustF T [116,104,101,110] c.2).bind fun p1 => (e p1).bind fun a => (mustF T [101,108,115,101] a.2).bind fun p2 => (e p2).map fun b => (nodeF 10 t.pos [] [c.1,a.1,b.1],b.2)
  else (cmpR T e pt p).bind fun r => (isF T [59] r.2).bind fun b => if b ∧ ¬ r.2.flat then (stepR T r.2).bind fun q => (e q.2).map fun u => (nodeF 14 r.1.pos [] [r.1,u.1],u.2) else some (r.1,r.2)
def expI : Nat → PM Nd
  | 0 => fun _ => none
  | n + 1 => innerR T (deepR T (expI n)) (deepR T (patI T (n + 1)))
def typeR (ty : PM Nd) (a : Int) : PM Nd := fun p => (textR T 3 p).bind fun q => (namesRL T (T.length + 2) (nodeF 25 a q.1 []) q.2).bind fun u => (mustF T [61] u.2).bind fun p1 => consRL T ty (T.length + 2) true u.1 p1
def declR (e ty : PM Nd) : PM Nd := fun p => (isF T [116,121,112,101] p).bind fun b => (stepR T p).bind fun r =>
  (if b then typeR T ty r.1.pos r.2 else (valueR T e { r.2 with flat := true }).map fun q => (nodeF (if q.1.2.1 then 29 else 28) r.1.pos q.1.1 [q.1.2.2],{ q.2 with flat := false })).bind fun u =>
  (mustF T [59] u.2).map fun p1 => (u.1,p1)
def progRL (e ty : PM Nd) : Nat → Nd → PM Nd
  | 0,_ => fun _ => none
  | n + 1,nd => fun p => (lookF T p).bind fun t => if isT t [116,121,112,101] ∨ isT t [108,101,116] then (if nd.kids.length = 60 then (failF T 16 p).map fun p1 => (nd,p1) else (declR T e ty p).bind fun r => progRL e ty n (nd.addKid r.1) r.2) else some (nd,p)
def progR (e ty : PM Nd) : PM Nd := fun p => (atR T p).bind fun a => (progRL T e ty (T.length + 2) (nodeF 30 a [] []) p).bind fun r => (mustF T [100,111] r.2).bind fun p1 =>
  (e p1).bind fun u => (lookF T u.2).bind fun t' => (if t'.kind ≠ 0 then failF T 14 u.2 else some u.2).map fun p2 => (r.1.addKid u.1,p2)
def parseRF : Option (Nd × Int × Int) := (progR T (deepR T (expI T 42)) (deepR T (tyI T 42)) ⟨0,0,false,0,0⟩).map fun r => if r.2.e = 0 then (r.1,0,0) else (nd0,r.2.bad,r.2.e)
end
end Go.AL
