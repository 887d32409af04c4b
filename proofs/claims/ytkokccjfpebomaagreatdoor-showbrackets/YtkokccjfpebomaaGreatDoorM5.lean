/- The parser as plain functions: tokens, nodes, the state; each reads on only where the program does. -/
import Derived.Test.YtkokccjfpebomaaGreatDoorA9
import Derived.Lib.IndexMore
set_option linter.unusedSimpArgs false
set_option linter.unusedVariables false
namespace Go.AL
abbrev Tx:=List UInt8
abbrev ba (l:Tx):ByteArray:=⟨l.toArray⟩
structure Tk where
 kind:Int
 text:Tx
 num:Int
 pos:Int
 deriving DecidableEq
def xB:Tk:=⟨0,[],0,0⟩
instance:Inhabited Tk:=⟨xB⟩
inductive Nd where
 | mk (kind:Int) (text:Tx) (num:Int) (pos:Int) (names:List Tx) (kids:List Nd)
namespace Nd
def kind:Nd→Int | mk k _ _ _ _ _=>k
def text:Nd→Tx | mk _ t _ _ _ _=>t
def num:Nd→Int | mk _ _ n _ _ _=>n
def pos:Nd→Int | mk _ _ _ a _ _=>a
def names:Nd→List Tx | mk _ _ _ _ l _=>l
def kids:Nd→List Nd | mk _ _ _ _ _ l=>l
def addKid:Nd→Nd→Nd | mk x t n a l k,c=>mk x t n a l (k++[c])
def addKids:Nd→List Nd→Nd | mk x t n a l k,c=>mk x t n a l (k++c)
def addName:Nd→Tx→Nd | mk x t n a l k,c=>mk x t n a (l++[c]) k
end Nd
def J9:Nd :=.mk 0 [] 0 0 [] []
instance:Inhabited Nd:=⟨J9⟩
def zT (k a:Int) (t:Tx) (kids:List Nd):Nd :=.mk k t 0 a [] kids
structure PS where
 pos:Nat
 deep:Nat
 flat:Bool
 bad:Int
 e:Int
 deriving DecidableEq
abbrev PM (α:Type):=PS→Option (α×PS)
section
variable (T:List Tk)
def zR (p:PS):Option Tk:=if p.e=0 then T[p.pos]? else some xB
def ZM:PM Tk:=fun p=>(zR T p).map fun t=>(t,if p.e=0∧t.kind≠0 then { p with pos:=p.pos+1 } else p)
def isT (t:Tk) (s:Tx):Bool:=(t.kind==5 || t.kind==6)&&t.text==s
def Jn (s:Tx) (p:PS):Option Bool:=(zR T p).map fun t=>isT t s
def Za (e:Int) (p:PS):Option PS:=if p.e=0 then (T[p.pos]?).map fun t=>{ p with bad:=t.pos,e:=e } else some p
def Xx (s:Tx):PM Bool:=fun p=>(Jn T s p).bind fun b=>if b then (ZM T p).map fun r=>(true,r.2) else some (false,p)
def qJ (s:Tx) (p:PS):Option PS:=(Xx T s p).bind fun r=>if r.1 then some r.2 else Za T 14 r.2
def XV (k:Int):PM Tk:=fun p=>(zR T p).bind fun t=>(if t.kind≠k then Za T 14 p else some p).bind fun p1=>ZM T p1
def Z8 (n m:Int) (p:PS):Option PS:=if m≤n then Za T 16 p else some p
def X9 (e:PM Nd):PM Nd:=fun p =>
 (if 40≤p.deep then Za T 15 p else some p).bind fun p1 =>
 if p1.e≠0 then some (J9,p1) else (e { p1 with deep:=p1.deep+1 }).bind fun r=>if r.2.deep=0∨1000<r.2.deep then none else some (r.1,{ r.2 with deep:=r.2.deep-1 })
def YW (e:PM Nd):PM Nd:=fun p =>
 (qJ T [40] p).bind fun p1=>(X9 T e p1).bind fun r=>(qJ T [41] r.2).map fun p2=>(r.1,p2)
def Xs (kinds:List (Int×Int)):PM Nd:=fun p =>
 (zR T p).bind fun t=>let k:=((kinds.find? fun q=>q.1==t.kind).map (·.2)).getD 0
  if k=0 then (Za T 14 p).map fun p1=>(J9,p1) else (ZM T p).map fun r=>(.mk k t.text t.num t.pos [] [],r.2)
def gF (e:PM Nd):Nat→Nd→PM Nd
 | 0,_=>fun _=>none
 | n+1,nd=>fun p=>(zR T p).bind fun t =>
  if t.kind=3 then (ZM T p).bind fun r=>gF e n (nd.addKid (zT 27 t.pos t.text [])) r.2
  else (Jn T [40] p).bind fun b=>if b then (YW T e p).bind fun r=>gF e n (nd.addKid r.1) r.2 else some (nd,p)
def b7 (e:PM Nd):PM Nd:=fun p=>(XV T 3 p).bind fun r=>gF T e (T.length+2) (zT 27 r.1.pos r.1.text []) r.2
def bU:Nat→PM Nd
 | 0=>fun _=>none
 | n+1=>b7 T (bU n)
def GX (e:PM Nd):Nat→Bool→Nd→PM Nd
 | 0,_,_=>fun _=>none
 | n+1,more,nd=>fun p=>if more∧p.e=0 then (Z8 T nd.kids.length 4 p).bind fun p1=>(X9 T e p1).bind fun r=>(Xx T [44] r.2).bind fun q=>GX e n q.1 (nd.addKid r.1) q.2 else some (nd,p)
def FI (e:PM Nd):PM Nd:=fun p=>(XV T 4 p).bind fun r=>(Xx T [111,102] r.2).bind fun q =>
 if q.1 then GX T e (T.length+2) true (zT 26 r.1.pos r.1.text []) q.2 else some (zT 26 r.1.pos r.1.text [],q.2)
def Yx:Nat→Nd→PM Nd
 | 0,_=>fun _=>none
 | n+1,nd=>fun p=>(zR T p).bind fun t=>if t.kind=3 then (Z8 T nd.names.length 4 p).bind fun p1=>(ZM T p1).bind fun r=>Yx n (nd.addName r.1.text) r.2 else some (nd,p)
def Wv (e:PM Nd):Nat→Bool→Nd→PM Nd
 | 0,_,_=>fun _=>none
 | n+1,more,nd=>fun p=>if more∧p.e=0 then (Z8 T nd.kids.length 20 p).bind fun p1=>(FI T e p1).bind fun r=>(Xx T [124] r.2).bind fun q=>Wv e n q.1 (nd.addKid r.1) q.2 else some (nd,p)
def XP (e:PM Nd):PM Nd:=fun p=>(ZM T p).bind fun r=>(XV T 3 r.2).bind fun q=>(Yx T (T.length+2) (zT 25 r.1.pos q.1.text []) q.2).bind fun u =>
 (qJ T [61] u.2).bind fun p1=>Wv T e (T.length+2) true u.1 p1
def Yf (e:PM Nd):PM Nd:=fun p=>(zR T p).bind fun t=>(Xx T [95] p).bind fun q =>
 if q.1 then some (zT 24 t.pos [] [],q.2) else (Jn T [40] q.2).bind fun b=>if b then YW T e q.2 else Xs T [(1,1),(3,4),(4,5)] q.2
def JE (p:PS):Option Bool:=(zR T p).map fun t=>isT t [95] || isT t [40] || t.kind==3 || t.kind==1 || t.kind==4
def WY (e:PM Nd):Nat→Bool→Nd→PM Nd
 | 0,_,_=>fun _=>none
 | n+1,con,nd=>fun p=>if con then (JE T p).bind fun b=>if b then (Z8 T nd.kids.length 4 p).bind fun p1=>(Yf T e p1).bind fun r=>WY e n con (nd.addKid r.1) r.2 else some (nd,p) else some (nd,p)
def Do (e:PM Nd):PM Nd:=fun p=>(zR T p).bind fun t=>(Yf T e p).bind fun r=>WY T e (T.length+2) (t.kind==4) r.1 r.2
def Df:Nat→PM Nd
 | 0=>fun _=>none
 | n+1=>Do T (Df n)
def Q7 (e:PM Nd):PM Nd:=fun p=>(X9 T e { p with flat:=false }).map fun r=>(r.1,{ r.2 with flat:=p.flat })
def XF (e pt:PM Nd):Nat→Bool→Nd→PM Nd
 | 0,_,_=>fun _=>none
 | n+1,first,nd=>fun p=>(if first then some true else Jn T [124] p).bind fun b =>
  if b then (Z8 T (Int.tdiv nd.kids.length 2) 20 p).bind fun p1=>(qJ T [124] p1).bind fun p2=>(X9 T pt p2).bind fun r=>(qJ T [45,62] r.2).bind fun p3=>(Q7 T e p3).bind fun q=>XF e pt n false (nd.addKids [r.1,q.1]) q.2
  else some (nd,p)
def Jr (e pt:PM Nd):PM Nd:=fun p=>(ZM T p).bind fun r=>(Q7 T e r.2).bind fun q=>(qJ T [119,105,116,104] q.2).bind fun p1=>(XF T e pt (T.length+2) true (zT 11 r.1.pos [] [q.1]) p1).bind fun u =>
 (qJ T [101,110,100] u.2).map fun p2=>(u.1,p2)
def EA (e:PM Nd):PM Nd:=fun p=>(ZM T p).bind fun r=>(Q7 T e r.2).bind fun q=>(qJ T [119,105,116,104] q.2).bind fun p1=>(XV T 3 p1).bind fun u=>(qJ T [45,62] u.2).bind fun p2 =>
 (Q7 T e p2).bind fun v=>(qJ T [101,110,100] v.2).map fun p3=>(zT 12 r.1.pos u.1.text [q.1,v.1],p3)
def Xz (e pt:PM Nd):PM Nd:=fun p=>(zR T p).bind fun t =>
 if isT t [109,97,116,99,104] then Jr T e pt p
 else if isT t [116,114,121] then EA T e p
 else if isT t [114,101,116,114,121] then (ZM T p).map fun r=>(zT 19 t.pos [] [],r.2)
 else if isT t [40] then (ZM T p).bind fun r=>(Xx T [41] r.2).bind fun q =>
  if q.1 then some (zT 3 t.pos [] [],q.2) else (Q7 T e q.2).bind fun u=>(qJ T [41] u.2).map fun p1=>(u.1,p1)
 else Xs T [(1,1),(2,2),(3,4),(4,5)] p
def ZD (t:Tk):Bool:=t.kind==1 || t.kind==2 || t.kind==3 || t.kind==4 || isT t [40] || isT t [114,101,116,114,121] || isT t [109,97,116,99,104] || isT t [116,114,121]
def Qm (s:Tx):Int×Int :=
 if s=[112,114,105,110,116] then (15,1) else if s=[114,97,105,115,101] then (16,1) else if s=[115,112,97,119,110] then (17,1)
 else if s=[97,116,111,109,105,99,97,108,108,121] then (18,1) else if s=[116,118,97,114] then (21,1) else if s=[114,101,97,100] then (22,1)
 else if s=[119,114,105,116,101] then (23,2) else if s=[111,114,101,108,115,101] then (20,2) else (0,0)
def XS (e pt:PM Nd):Nat→Nd→PM Nd
 | 0,nd=>fun p=>some (nd,p)
 | n+1,nd=>fun p=>(Xz T e pt p).bind fun r=>XS e pt n (nd.addKid r.1) r.2
def JY (e pt:PM Nd):Nat→Bool→Nd→PM Nd
 | 0,_,_=>fun _=>none
 | n+1,bare,nd=>fun p=>(zR T p).bind fun t=>if ZD t then
   (if bare then (Z8 T nd.kids.length 4 p).bind fun p1=>(Xz T e pt p1).bind fun r=>JY e pt n bare (nd.addKid r.1) r.2
   else (Xz T e pt p).bind fun r=>JY e pt n bare (zT 7 nd.pos [] [nd,r.1]) r.2) else some (nd,p)
def Hl (e pt:PM Nd):PM Nd:=fun p=>(zR T p).bind fun t =>
 if t.kind=6∧0<(Qm t.text).1 then (ZM T p).bind fun r=>XS T e pt (Qm t.text).2.toNat (zT (Qm t.text).1 t.pos [] []) r.2
 else (Xz T e pt p).bind fun r=>JY T e pt (T.length+2) (t.kind==4) r.1 r.2
def Ji (part:PM Nd) (signs:List Tx):Nat→Tk→Nd→PM Nd
 | 0,_,_=>fun _=>none
 | n+1,t,nd=>fun p=>if t.kind=5∧t.text∈signs then (ZM T p).bind fun r=>(part r.2).bind fun q=>(zR T q.2).bind fun t'=>Ji part signs n t' (zT 13 nd.pos t.text [nd,q.1]) q.2 else some (nd,p)
def JQ (part:PM Nd) (signs:List Tx):PM Nd:=fun p=>(part p).bind fun r=>(zR T r.2).bind fun t=>Ji T part signs (T.length+2) t r.1 r.2
def E':List Tx:=[[42],[47],[37]]
def signsP:List Tx:=[[43],[45],[94]]
def ta (e pt:PM Nd):PM Nd:=JQ T (Hl T e pt) E'
def GS (e pt:PM Nd):PM Nd:=JQ T (ta T e pt) signsP
def Hx (e pt:PM Nd):PM Nd:=fun p=>(GS T e pt p).bind fun r=>(zR T r.2).bind fun t =>
 if isT t [61]∨isT t [60] then (ZM T r.2).bind fun q=>(GS T e pt q.2).map fun u=>(zT 13 r.1.pos t.text [r.1,u.1],u.2) else some (r.1,r.2)
def Ye (e:PM Nd):PM (Tx×Bool×Nd):=fun p=>(Xx T [114,101,99] p).bind fun r=>(XV T 3 r.2).bind fun q=>(qJ T [61] q.2).bind fun p1 =>
 (if r.1∧p1.deep<40 then (Jn T [102,117,110] p1).bind fun b=>if b then some p1 else Za T 14 p1 else some p1).bind fun p2 =>
 (X9 T e p2).map fun u=>((q.1.text,r.1,u.1),u.2)
def GE (e:PM Nd):PM Nd:=fun p=>(ZM T p).bind fun r=>(Ye T e r.2).bind fun q=>(qJ T [105,110] q.2).bind fun p1=>(X9 T e p1).map fun u =>
 (zT (if q.1.2.1 then 9 else 8) r.1.pos q.1.1 [q.1.2.2,u.1],u.2)
def GO (e:PM Nd):PM Nd:=fun p=>(ZM T p).bind fun r=>(XV T 3 r.2).bind fun q=>(qJ T [45,62] q.2).bind fun p1=>(X9 T e p1).map fun u=>(zT 6 r.1.pos q.1.text [u.1],u.2)
def Jf (e:PM Nd):PM Nd:=fun p=>(ZM T p).bind fun r=>(X9 T e r.2).bind fun c=>(qJ T [116,104,101,110] c.2).bind fun p1=>(X9 T e p1).bind fun a=>(qJ T [101,108,115,101] a.2).bind fun p2 =>
 (X9 T e p2).map fun b=>(zT 10 r.1.pos [] [c.1,a.1,b.1],b.2)
def UJ (e pt:PM Nd):PM Nd:=fun p=>(zR T p).bind fun t =>
 if t.kind=6∧t.text=[108,101,116] then GE T e p
 else if t.kind=6∧t.text=[102,117,110] then GO T e p
 else if t.kind=6∧t.text=[105,102] then Jf T e p
 else (Hx T e pt p).bind fun r=>(if r.2.flat then some (false,r.2) else Xx T [59] r.2).bind fun q =>
  if q.1 then (X9 T e q.2).map fun u=>(zT 14 r.1.pos [] [r.1,u.1],u.2) else some (r.1,q.2)
def Wx:Nat→PM Nd
 | 0=>fun _=>none
 | n+1=>UJ T (Wx n) (Df T (n+1))
def WE (e ty:PM Nd):PM Nd:=fun p=>(Jn T [116,121,112,101] p).bind fun b =>
 (if b then XP T ty p else (ZM T p).bind fun r=>(Ye T e { r.2 with flat:=true }).map fun q=>(zT (if q.1.2.1 then 29 else 28) r.1.pos q.1.1 [q.1.2.2],{ q.2 with flat:=false })).bind fun u =>
 (qJ T [59] u.2).map fun p1=>(u.1,p1)
def VB (e ty:PM Nd):Nat→Nd→PM Nd
 | 0,_=>fun _=>none
 | n+1,nd=>fun p=>(Jn T [116,121,112,101] p).bind fun a=>(if a then some true else Jn T [108,101,116] p).bind fun b =>
  if b then (Z8 T nd.kids.length 60 p).bind fun p1=>(WE T e ty p1).bind fun r=>VB e ty n (nd.addKid r.1) r.2 else some (nd,p)
def KC (e ty:PM Nd):PM Nd:=fun p=>(zR T p).bind fun t=>(VB T e ty (T.length+2) (zT 30 t.pos [] []) p).bind fun r=>(qJ T [100,111] r.2).bind fun p1 =>
 (X9 T e p1).bind fun u=>(zR T u.2).bind fun t'=>(if t'.kind≠0 then Za T 14 u.2 else some u.2).map fun p2=>(r.1.addKid u.1,p2)
def YO:Option (Nd×Int×Int):=(KC T (Wx T 42) (bU T 42) ⟨0,0,false,0,0⟩).map fun r=>if r.2.e=0 then (r.1,0,0) else (J9,r.2.bad,r.2.e)
end
end Go.AL
namespace Go.AL
def Qh (c:UInt8):Bool:=decide (97≤c)&&decide (c≤122)
def ZK (c:UInt8):Bool:=decide (65≤c)&&decide (c≤90)
def qu (c:UInt8):Bool:=decide (48≤c)&&decide (c≤57)
def qe (c:UInt8):Bool:=Qh c || ZK c || qu c || c==95
def Vq (c:UInt8):Bool:=decide (32≤c)&&decide (c≤126)&&c != 34&&c != 92
def qh:Bool→Tx→Nat
 | _,[]=>0
 | true,c::r=>if c=10 then qh false r+1 else qh true r+1
 | false,c::r=>if c=32∨c=9∨c=10 then qh false r+1 else if c=35 then qh true r+1 else 0
def qp (p:UInt8→Bool):Tx→Nat
 | []=>0
 | c::r=>if p c then qp p r+1 else 0
def Qs (d:Tx):Nat:=d.foldl (fun v c=>10*v+(c.toNat-48)) 0
def keysL:List Tx:=[[108,101,116],[114,101,99],[105,110],[102,117,110],[105,102],[116,104,101,110],[101,108,115,101],[109,97,116,99,104],[119,105,116,104],[101,110,100],[116,114,121],[112,114,105,110,116],[114,97,105,115,101],[115,112,97,119,110],[97,116,111,109,105,99,97,108,108,121],[114,101,116,114,121],[111,114,101,108,115,101],[116,118,97,114],[114,101,97,100],[119,114,105,116,101],[116,121,112,101],[111,102],[100,111]]
def signsL:Tx:=[61,60,43,45,42,47,37,94,59,124,40,41,44,95]
def hexL:Tx:=[48,49,50,51,52,53,54,55,56,57,97,98,99,100,101,102]
def Y6 (c:UInt8):Option Nat:=hexL.findIdx? (· == c)
def Jm:Tx→Except Int (UInt8×Nat)
 | [] =>.error 11
 | c::r=>if c=110 then .ok (10,1) else if c=34 then .ok (34,1) else if c=92 then .ok (92,1) else if c≠120 then .error 10 else
  match r with
  | [] =>.error 11
  | a::r=>match Y6 a with
   | none =>.error 10
   | some x=>match r with
    | [] =>.error 11
    | b::_=>match Y6 b with
     | none =>.error 10
     | some y =>.ok (UInt8.ofNat (16*x+y),3)
def Yu:Nat→Tx→Tx→Nat→Except Int (Tx×Nat)
 | 0,_,_,_ =>.error 11
 | _+1,[],_,_ =>.error 11
 | n+1,c::r,b,k=>if c=10 then .error 11 else if c=34 then (if 60<b.length then .error 12 else .ok (b,k+1))
  else if c=92 then (match Jm r with
   | .error e =>.error e
   | .ok (x,m)=>Yu n (r.drop m) (b++[x]) (k+1+m))
  else if Vq c then Yu n r (b++[c]) (k+1) else .error 10
def Vx (s:Tx):Except Int (Tx×Nat):=match s with
 | [] =>.error 14
 | c::r=>if c=34 then Yu (r.length+1) r [] 1 else .error 14
def Xc (s:Tx) (pos:Int):Except Int (Tk×Nat):=match s with
 | [] =>.error 10
 | c::r =>
  if qu c then (if 4611686018427387903<Qs (s.take (qp qu s)) then .error 13 else .ok (⟨1,[],Qs (s.take (qp qu s)),pos⟩,qp qu s))
  else if c=34 then (match Vx s with
   | .error e =>.error e
   | .ok (t,n) =>.ok (⟨2,t,0,pos⟩,n))
  else if Qh c || ZK c then (if 16<qp qe s then .error 12 else .ok (⟨if ZK c then 4 else if s.take (qp qe s)∈keysL then 6 else 3,s.take (qp qe s),0,pos⟩,qp qe s))
  else if c∈signsL then (if r.head?=some 62∧c=45 then .ok (⟨5,[45,62],0,pos⟩,2) else .ok (⟨5,[c],0,pos⟩,1))
  else .error 10
def Zn:Nat→Tx→Nat→List Tk→Except (Nat×Int) (List Tk)
 | 0,_,_,_ =>.error (0,0)
 | n+1,s,k,out=>match s.drop (qh false s) with
  | [] =>.ok (out++[⟨0,[],0,((k+qh false s:Nat):Int)⟩])
  | c::r=>match Xc (c::r) ((k+qh false s:Nat):Int) with
   | .error e =>.error (k+qh false s,e)
   | .ok (t,m)=>Zn n ((c::r).drop m) (k+qh false s+m) (out++[t])
def Y0 (s:Tx):Except (Nat×Int) (List Tk):=if 2000<s.length then .error (0,12) else Zn (s.length+1) s 0 []
def q8 (s:Tx):Option (Nd×Int×Int):=match Y0 s with
 | .error (a,e)=>some (J9,a,e)
 | .ok T=>YO T
end Go.AL
namespace Go.AL
theorem HR (c:UInt8) (l p:Tx):Lib.contains (c::l) p=(p.isPrefixOf (c::l) || Lib.contains l p):=by
 have h:=Lib.index_ge l p
 unfold Lib.contains
 rw[show Lib.index (c::l) p=if p.isPrefixOf (c::l) then 0 else if Lib.index l p == -1 then -1 else Lib.index l p+1 by rw[Lib.index]]
 cases hp:p.isPrefixOf (c::l) with
 | true=>simp
 | false =>
  by_cases h1:Lib.index l p = -1
  ·simp[h1]
  ·have h2:(Lib.index l p == -1)=false:=by simp[h1]
   simp only[h2,Bool.false_eq_true,if_false,Bool.false_or]
   rw[decide_eq_decide];omega
theorem LO (c:UInt8) (p:Tx):Lib.contains [] (c::p)=false:=by
 simp[Lib.contains,Lib.index]
theorem HN (p:Tx):∀ (w r:Tx),(∀ c∈w,c≠32)→Lib.contains (w++r) (32::p)=Lib.contains r (32::p)
 | [],r,_=>rfl
 | c::w,r,h=>by
  rw[List.cons_append,HR,HN p w r fun x hx=>h x (List.mem_cons_of_mem _ hx)]
  have:(32::p).isPrefixOf (c::(w++r))=false:=by
   rw[List.isPrefixOf]
   have:(32==c)=false:=by
    have:=h c List.mem_cons_self
    simp;exact fun e=>this e.symm
   rw[this];rfl
  rw[this,Bool.false_or]
theorem wi:∀ (s w r:Tx),(∀ c∈s,c≠32)→(∀ c∈w,c≠32)→(s++[32]).isPrefixOf (w++32::r)=decide (s=w)
 | [],[],r,_,_=>by simp[List.isPrefixOf]
 | [],c::w,r,_,h=>by
  have:(32==c)=false:=by
   have:=h c List.mem_cons_self
   simp;exact fun e=>this e.symm
  simp[List.isPrefixOf,this]
 | c::s,[],r,h,_=>by
  have:(c==32)=false:=by
   have:=h c List.mem_cons_self
   simp;exact this
  simp[List.isPrefixOf,this]
 | c::s,d::w,r,h,k=>by
  have ih:=wi s w r (fun x hx=>h x (List.mem_cons_of_mem _ hx)) (fun x hx=>k x (List.mem_cons_of_mem _ hx))
  rw[List.cons_append,List.cons_append,List.isPrefixOf,ih]
  by_cases e:c=d
  ·subst e;simp
  ·simp[e]
def G6 (ws:List Tx):Tx:=ws.flatMap fun w=>w++[32]
theorem G8 (s:Tx) (hs:∀ c∈s,c≠32):∀ ws:List Tx,(∀ w∈ws,∀ c∈w,c≠32)→Lib.contains (32::G6 ws) (32::(s++[32]))=decide (s∈ws)
 | [],_=>by
  rw[HR]
  simp only[G6,List.flatMap_nil,LO,Bool.or_false,List.not_mem_nil,decide_false]
  cases s with
  | nil=>rfl
  | cons c s=>rfl
 | w::ws,h=>by
  have ih:=G8 s hs ws fun x hx=>h x (List.mem_cons_of_mem _ hx)
  have e:G6 (w::ws)=w++(32::G6 ws):=by simp[G6]
  rw[HR,e,HN _ _ _ (h w List.mem_cons_self),ih,List.isPrefixOf,wi s w _ hs (h w List.mem_cons_self)]
  by_cases q:s=w
  ·subst q;simp
  ·simp[q]
def Gl:Tx:=[32,108,101,116,32,114,101,99,32,105,110,32,102,117,110,32,105,102,32,116,104,101,110,32,101,108,115,101,32,109,97,116,99,104,32,119,105,116,104,32,101,110,100,32,116,114,121,32,112,114,105,110,116,32,114,97,105,115,101,32,115,112,97,119,110,32,97,116,111,109,105,99,97,108,108,121,32,114,101,116,114,121,32,111,114,101,108,115,101,32,116,118,97,114,32,114,101,97,100,32,119,114,105,116,101,32,116,121,112,101,32,111,102,32,100,111,32]
theorem ni (s:Tx) (hs:∀ c∈s,c≠32):Lib.contains Gl (32::(s++[32]))=decide (s∈keysL):=by
 have:Gl=32::G6 keysL:=by decide
 rw[this]
 exact G8 s hs keysL (by decide)
theorem pA (s:Tx) (hs:∀ c∈s,c≠32):Lib.contains s [32]=false:=by
 have:=HN [] s [] hs
 rw[List.append_nil] at this
 rw[this];exact LO _ _
theorem gZ {l:Tx}:∀ c∈l.take (qp qe l),qe c=true:=by
 induction l with
 | nil=>intro c hc;cases hc
 | cons d l ih =>
  intro c hc
  unfold qp at hc
  split at hc
  ·rename_i h
   rw[List.take_succ_cons] at hc
   rcases List.mem_cons.1 hc with rfl | hc
   ·exact h
   ·exact ih c hc
  ·cases hc
theorem jA {c:UInt8} (h:qe c=true):c≠32:=by rintro rfl;revert h;decide
end Go.AL
namespace Go.AL
theorem LK (a:Tx) (c:UInt8):Qs (a++[c])=10*Qs a+(c.toNat-48):=by simp[Qs]
theorem jE {d:Tx} {j:Nat} (h:j<d.length):Qs (d.take (j+1))=10*Qs (d.take j)+(d[j].toNat-48):=by
 rw[List.take_succ_eq_append_getElem h,LK]
theorem m9:∀ (b a:Tx),Qs a≤Qs (a++b)
 | [],a=>by simp
 | c::b,a=>by
  have h:=m9 b (a++[c])
  rw[List.append_assoc] at h
  rw[LK] at h
  simp only[List.cons_append,List.nil_append] at h
  omega
theorem H4 (d:Tx) (j:Nat):Qs (d.take j)≤Qs d:=by
 have:=m9 (d.drop j) (d.take j)
 rwa[List.take_append_drop] at this
theorem E2:∀ l:Tx,Qs (l.dropWhile (· == 48))=Qs l
 | []=>rfl
 | c::r=>by
  rw[List.dropWhile_cons]
  split
  ·rename_i h
   rw[E2 r]
   have:c=48:=by simpa using h
   subst this
   simp[Qs]
  ·rfl
def J' (l:Tx):Tx:=if l.dropWhile (· == 48)=[] then [48] else l.dropWhile (· == 48)
theorem hM (l:Tx):Qs (J' l)=Qs l:=by
 unfold J'
 split
 ·rename_i h
  rw[←E2 l,h];rfl
 ·exact E2 l
theorem BJ:∀ l:Tx,l.dropWhile (· == 48)≠[]→(l.dropWhile (· == 48)).headD 0≠48
 | [],h=>absurd rfl h
 | c::r,h=>by
  rw[List.dropWhile_cons] at h ⊢
  split
  ·rename_i hc
   rw[if_pos hc] at h
   exact BJ r h
  ·rename_i hc
   simpa using hc
theorem dn (l:Tx) (hl:∀ c∈l,qu c=true):J' l≠[]∧(∀ c∈J' l,qu c=true)∧((J' l).headD 0≠48∨(J' l).length=1):=by
 unfold J'
 split
 ·exact⟨by simp,fun c hc=>by simp at hc;subst hc;decide,.inr rfl⟩
 ·rename_i h
  exact⟨h,fun c hc=>hl c ((List.dropWhile_sublist _).mem hc),.inl (BJ l h)⟩
def KF (d:Tx):Int×Int:=if 4611686018427387903<Qs d then (0,13) else (Qs d,0)
theorem gS (v k:Nat) (hk:k≤9) (hv:v≤4611686018427387904):(-(v:Int)<Int.tdiv (-4611686018427387904+(k:Int)) 10)↔4611686018427387904<10*v+k:=by
 have h:(-4611686018427387904+(k:Int)) = -((4611686018427387904-k:Nat):Int):=by omega
 rw[h,Int.neg_tdiv,show Int.tdiv ((4611686018427387904-k:Nat):Int) 10=(((4611686018427387904-k) / 10:Nat):Int) by rfl]
 omega
end Go.AL
namespace Go.AL
section
variable (T:List Tk)
def ZA:PM Tk:=fun p=>(zR T p).map fun t=>if t.kind=0 then (xB,p) else (t,{ p with pos:=p.pos+1 })
def JP (k:Int):PM Tx:=fun p=>(XV T k p).map fun r=>(r.1.text,r.2)
def nY (p:PS):Option Int:=(zR T p).map (·.pos)
def Yt (e:PM Nd):PM Nd:=fun p=>if 1000<p.deep then none else
 (if p.deep=40 then Za T 15 p else some p).bind fun p1 =>
 if p1.e≠0 then some (J9,p1) else (e { p1 with deep:=p1.deep+1 }).bind fun r=>if r.2.deep=0∨1000<r.2.deep then none else some (r.1,{ r.2 with deep:=r.2.deep-1 })
def YS (k:Int):PM Nd:=fun p=>(ZA T p).map fun r=>(.mk k r.1.text r.1.num r.1.pos [] [],r.2)
def U1 (c:Prop) [Decidable c] (p:PS):Option PS:=if c then Za T 16 p else some p
def LM (ty:PM Nd):Nat→Nd→PM Nd
 | 0,_=>fun _=>none
 | n+1,nd=>fun p=>if p.e=0 then (zR T p).bind fun t =>
  if t.kind=3 then (ZA T p).bind fun r=>LM ty n (nd.addKid (zT 27 r.1.pos r.1.text [])) r.2
  else if isT t [40] then (ZA T p).bind fun r=>(ty r.2).bind fun q=>(qJ T [41] q.2).bind fun p1=>LM ty n (nd.addKid q.1) p1 else some (nd,p)
  else some (nd,p)
def sO (ty:PM Nd):PM Nd:=fun p=>(nY T p).bind fun a=>(JP T 3 p).bind fun r=>LM T ty (T.length+2) (zT 27 a r.1 []) r.2
def iO:Nat→PM Nd
 | 0=>fun _=>none
 | n+1=>sO T (Yt T (iO n))
def BL (ty:PM Nd):Nat→Bool→Nd→PM Nd
 | 0,_,_=>fun _=>none
 | n+1,more,nd=>fun p=>if more∧p.e=0 then (ZA T p).bind fun r=>(U1 T (nd.kids.length=4) r.2).bind fun p1=>(ty p1).bind fun q=>(Jn T [44] q.2).bind fun b=>BL ty n b (nd.addKid q.1) q.2 else some (nd,p)
def wk (ty:PM Nd):PM Nd:=fun p=>(nY T p).bind fun a=>(JP T 4 p).bind fun r=>(Jn T [111,102] r.2).bind fun b=>BL T ty (T.length+2) b (zT 26 a r.1 []) r.2
def Kc:Nat→Nd→PM Nd
 | 0,_=>fun _=>none
 | n+1,nd=>fun p=>(zR T p).bind fun t=>if t.kind=3 then (if nd.names.length=4 then (Za T 16 p).map fun p1=>(nd,p1) else (ZA T p).bind fun r=>Kc n (nd.addName r.1.text) r.2) else some (nd,p)
def HA (ty:PM Nd):Nat→Bool→Nd→PM Nd
 | 0,_,_=>fun _=>none
 | n+1,more,nd=>fun p=>if more∧p.e=0 then (U1 T (nd.kids.length=20) p).bind fun p1=>(wk T ty p1).bind fun r=>(Xx T [124] r.2).bind fun q=>HA ty n q.1 (nd.addKid r.1) q.2 else some (nd,p)
def KJ (pt:PM Nd):PM Nd:=fun p=>(zR T p).bind fun t =>
 if t.kind=1 then YS T 1 p else if t.kind=3 then YS T 4 p else if t.kind=4 then YS T 5 p
 else if isT t [95] then (ZA T p).map fun r=>(zT 24 r.1.pos [] [],r.2)
 else if isT t [40] then (ZA T p).bind fun r=>(pt r.2).bind fun q=>(qJ T [41] q.2).map fun p1=>(q.1,p1)
 else (Za T 14 p).map fun p1=>(J9,p1)
def Ef (pt:PM Nd):Nat→Bool→Nd→PM Nd
 | 0,_,_=>fun _=>none
 | n+1,con,nd=>fun p=>if con then (JE T p).bind fun b=>if b then (if nd.kids.length=4 then (Za T 16 p).map fun p1=>(nd,p1) else (KJ T pt p).bind fun r=>Ef pt n con (nd.addKid r.1) r.2) else some (nd,p) else some (nd,p)
def mT (pt:PM Nd):PM Nd:=fun p=>(zR T p).bind fun t=>(KJ T pt p).bind fun r=>Ef T pt (T.length+2) (t.kind==4) r.1 r.2
def bh:Nat→PM Nd
 | 0=>fun _=>none
 | n+1=>mT T (Yt T (bh n))
def QY (e:PM Nd):PM Nd:=fun p=>(e { p with flat:=false }).map fun r=>(r.1,{ r.2 with flat:=p.flat })
def Ko (e pt:PM Nd):Nat→Bool→Nd→PM Nd
 | 0,_,_=>fun _=>none
 | n+1,more,nd=>fun p=>if more then (U1 T (nd.kids.length=41) p).bind fun p1=>(qJ T [124] p1).bind fun p2=>(pt p2).bind fun r=>(qJ T [45,62] r.2).bind fun p3=>(QY e p3).bind fun q=>(Jn T [124] q.2).bind fun b =>
   Ko e pt n b ((nd.addKid r.1).addKid q.1) q.2
  else some (nd,p)
def gw (e:PM Nd) (a:Int) (x:Nd):PM Nd:=fun p=>(JP T 3 p).bind fun u=>(qJ T [45,62] u.2).bind fun p2=>(QY e p2).bind fun v=>(qJ T [101,110,100] v.2).map fun p3=>(zT 12 a u.1 [x,v.1],p3)
def D5 (e pt:PM Nd) (a:Int) (x:Nd):PM Nd:=fun p=>(Ko T e pt (T.length+2) true (zT 11 a [] [x]) p).bind fun u=>(qJ T [101,110,100] u.2).map fun p2=>(u.1,p2)
def YU (e pt:PM Nd):PM Nd:=fun p=>(zR T p).bind fun t =>
 if t.kind=1 then YS T 1 p else if t.kind=2 then YS T 2 p else if t.kind=3 then YS T 4 p else if t.kind=4 then YS T 5 p
 else if isT t [114,101,116,114,121] then (ZA T p).map fun r=>(zT 19 t.pos [] [],r.2)
 else if isT t [40] then (ZA T p).bind fun r=>(Xx T [41] r.2).bind fun q =>
  if q.1 then some (zT 3 t.pos [] [],q.2) else (QY e q.2).bind fun u=>(qJ T [41] u.2).map fun p1=>(u.1,p1)
 else if isT t [116,114,121] then (ZA T p).bind fun r=>(QY e r.2).bind fun q=>(qJ T [119,105,116,104] q.2).bind fun p1=>gw T e t.pos q.1 p1
 else if isT t [109,97,116,99,104] then (ZA T p).bind fun r=>(QY e r.2).bind fun q=>(qJ T [119,105,116,104] q.2).bind fun p1=>D5 T e pt t.pos q.1 p1
 else (Za T 14 p).map fun p1=>(J9,p1)
def YD (t:Tk):Int×Int:=if t.kind=5∨t.kind=6 then Qm t.text else (0,0)
def WL (e pt:PM Nd):Nat→Bool→Nd→PM Nd
 | 0,_,_=>fun _=>none
 | n+1,con,nd=>fun p=>(zR T p).bind fun t=>if ZD t then
   (if con then (if nd.kids.length=4 then (Za T 16 p).map fun p1=>(nd,p1) else (YU T e pt p).bind fun r=>WL e pt n con (nd.addKid r.1) r.2)
   else (YU T e pt p).bind fun r=>WL e pt n con (zT 7 nd.pos [] [nd,r.1]) r.2) else some (nd,p)
def ji (e pt:PM Nd):PM Nd:=fun p=>(zR T p).bind fun t =>
 if 0<(YD t).1 then (ZA T p).bind fun r=>(YU T e pt r.2).bind fun q=>if (YD t).2=2 then (YU T e pt q.2).map fun u=>(zT (YD t).1 r.1.pos [] [q.1,u.1],u.2) else some (zT (YD t).1 r.1.pos [] [q.1],q.2)
 else (YU T e pt p).bind fun r=>WL T e pt (T.length+2) (t.kind==4) r.1 r.2
def Ky (t:Tk) (a b c:Tx):Tx:=if isT t a then a else if isT t b then b else if isT t c then c else []
def V5 (part:PM Nd) (a b c:Tx):Nat→Nd→PM Nd
 | 0,_=>fun _=>none
 | n+1,nd=>fun p=>(zR T p).bind fun t=>if Ky t a b c≠[] then (ZA T p).bind fun r=>(part r.2).bind fun q=>V5 part a b c n (zT 13 nd.pos (Ky t a b c) [nd,q.1]) q.2 else some (nd,p)
def H' (part:PM Nd) (a b c:Tx):PM Nd:=fun p=>(part p).bind fun r=>V5 T part a b c (T.length+2) r.1 r.2
def rk (e pt:PM Nd):PM Nd:=H' T (ji T e pt) [42] [47] [37]
def dR (e pt:PM Nd):PM Nd:=H' T (rk T e pt) [43] [45] [94]
def DD (e pt:PM Nd):PM Nd:=fun p=>(dR T e pt p).bind fun r=>(zR T r.2).bind fun t=>if Ky t [61] [60] [61]≠[] then (ZA T r.2).bind fun q=>(dR T e pt q.2).map fun u=>(zT 13 r.1.pos (Ky t [61] [60] [61]) [r.1,u.1],u.2) else some (r.1,r.2)
def Vt (e:PM Nd):PM (Tx×Bool×Nd):=fun p=>(Xx T [114,101,99] p).bind fun r=>(JP T 3 r.2).bind fun q=>(qJ T [61] q.2).bind fun p1=>(Jn T [102,117,110] p1).bind fun f =>
 (if r.1∧¬ f∧p1.deep<40 then Za T 14 p1 else some p1).bind fun p2=>(e p2).map fun u=>((q.1,r.1,u.1),u.2)
def DU (e pt:PM Nd):PM Nd:=fun p=>(zR T p).bind fun t =>
 if isT t [108,101,116] then (ZA T p).bind fun r=>(Vt T e r.2).bind fun q=>(qJ T [105,110] q.2).bind fun p1=>(e p1).map fun u=>(zT (if q.1.2.1 then 9 else 8) t.pos q.1.1 [q.1.2.2,u.1],u.2)
 else if isT t [102,117,110] then (ZA T p).bind fun r=>(JP T 3 r.2).bind fun q=>(qJ T [45,62] q.2).bind fun p1=>(e p1).map fun u=>(zT 6 t.pos q.1 [u.1],u.2)
 else if isT t [105,102] then (ZA T p).bind fun r=>(e r.2).bind fun c=>(qJ T [116,104,101,110] c.2).bind fun p1=>(e p1).bind fun a=>(qJ T [101,108,115,101] a.2).bind fun p2=>(e p2).map fun b=>(zT 10 t.pos [] [c.1,a.1,b.1],b.2)
 else (DD T e pt p).bind fun r=>(Jn T [59] r.2).bind fun b=>if b∧¬ r.2.flat then (ZA T r.2).bind fun q=>(e q.2).map fun u=>(zT 14 r.1.pos [] [r.1,u.1],u.2) else some (r.1,r.2)
def nF:Nat→PM Nd
 | 0=>fun _=>none
 | n+1=>DU T (Yt T (nF n)) (Yt T (bh T (n+1)))
def uh (ty:PM Nd) (a:Int):PM Nd:=fun p=>(JP T 3 p).bind fun q=>(Kc T (T.length+2) (zT 25 a q.1 []) q.2).bind fun u=>(qJ T [61] u.2).bind fun p1=>HA T ty (T.length+2) true u.1 p1
def jg (e ty:PM Nd):PM Nd:=fun p=>(Jn T [116,121,112,101] p).bind fun b=>(ZA T p).bind fun r =>
 (if b then uh T ty r.1.pos r.2 else (Vt T e { r.2 with flat:=true }).map fun q=>(zT (if q.1.2.1 then 29 else 28) r.1.pos q.1.1 [q.1.2.2],{ q.2 with flat:=false })).bind fun u =>
 (qJ T [59] u.2).map fun p1=>(u.1,p1)
def HL (e ty:PM Nd):Nat→Nd→PM Nd
 | 0,_=>fun _=>none
 | n+1,nd=>fun p=>(zR T p).bind fun t=>if isT t [116,121,112,101]∨isT t [108,101,116] then (if nd.kids.length=60 then (Za T 16 p).map fun p1=>(nd,p1) else (jg T e ty p).bind fun r=>HL e ty n (nd.addKid r.1) r.2) else some (nd,p)
def uR (e ty:PM Nd):PM Nd:=fun p=>(nY T p).bind fun a=>(HL T e ty (T.length+2) (zT 30 a [] []) p).bind fun r=>(qJ T [100,111] r.2).bind fun p1 =>
 (e p1).bind fun u=>(zR T u.2).bind fun t'=>(if t'.kind≠0 then Za T 14 u.2 else some u.2).map fun p2=>(r.1.addKid u.1,p2)
def EQ:Option (Nd×Int×Int):=(uR T (Yt T (nF T 42)) (Yt T (iO T 42)) ⟨0,0,false,0,0⟩).map fun r=>if r.2.e=0 then (r.1,0,0) else (J9,r.2.bad,r.2.e)
end
end Go.AL
