/- The parser as plain functions: tokens, nodes, the state; each reads on only where the program does. -/
import Derived.Test.YtkokccjfpebomaaGreatDoorA9
import Derived.Lib.IndexMore
set_option linter.unusedSimpArgs false
set_option linter.unusedVariables false
namespace Go.AL
abbrev Tx:=List UInt8
abbrev ba (l:Tx):ByteArray:=⟨l.toArray⟩
structure Tk where
 kind:Int
 text:Tx
 num:Int
 pos:Int
 deriving DecidableEq
def tk0:Tk:=⟨0,[],0,0⟩
instance:Inhabited Tk:=⟨tk0⟩
inductive Nd where
 | mk (kind:Int) (text:Tx) (num:Int) (pos:Int) (names:List Tx) (kids:List Nd)
namespace Nd
def kind:Nd→Int | mk k _ _ _ _ _=>k
def text:Nd→Tx | mk _ t _ _ _ _=>t
def num:Nd→Int | mk _ _ n _ _ _=>n
def pos:Nd→Int | mk _ _ _ a _ _=>a
def names:Nd→List Tx | mk _ _ _ _ l _=>l
def kids:Nd→List Nd | mk _ _ _ _ _ l=>l
def addKid:Nd→Nd→Nd | mk x t n a l k,c=>mk x t n a l (k++[c])
def addKids:Nd→List Nd→Nd | mk x t n a l k,c=>mk x t n a l (k++c)
def addName:Nd→Tx→Nd | mk x t n a l k,c=>mk x t n a (l++[c]) k
end Nd
def JH:Nd :=.mk 0 [] 0 0 [] []
instance:Inhabited Nd:=⟨JH⟩
def zR (k a:Int) (t:Tx) (kids:List Nd):Nd :=.mk k t 0 a [] kids
structure PS where
 pos:Nat
 deep:Nat
 flat:Bool
 bad:Int
 e:Int
 deriving DecidableEq
abbrev PM (α:Type):=PS→Option (α×PS)
section
variable (T:List Tk)
def zX (p:PS):Option Tk:=if p.e=0 then T[p.pos]? else some tk0
def ZP:PM Tk:=fun p=>(zX T p).map fun t=>(t,if p.e=0∧t.kind≠0 then { p with pos:=p.pos+1 } else p)
def isT (t:Tk) (s:Tx):Bool:=(t.kind==5 || t.kind==6)&&t.text==s
def Y1 (s:Tx) (p:PS):Option Bool:=(zX T p).map fun t=>isT t s
def Zc (e:Int) (p:PS):Option PS:=if p.e=0 then (T[p.pos]?).map fun t=>{ p with bad:=t.pos,e:=e } else some p
def Xz (s:Tx):PM Bool:=fun p=>(Y1 T s p).bind fun b=>if b then (ZP T p).map fun r=>(true,r.2) else some (false,p)
def qF (s:Tx) (p:PS):Option PS:=(Xz T s p).bind fun r=>if r.1 then some r.2 else Zc T 14 r.2
def Yg (k:Int):PM Tk:=fun p=>(zX T p).bind fun t=>(if t.kind≠k then Zc T 14 p else some p).bind fun p1=>ZP T p1
def Qk (n m:Int) (p:PS):Option PS:=if m≤n then Zc T 16 p else some p
def Yt (e:PM Nd):PM Nd:=fun p =>
 (if 40≤p.deep then Zc T 15 p else some p).bind fun p1 =>
 if p1.e≠0 then some (JH,p1) else (e { p1 with deep:=p1.deep+1 }).bind fun r=>if r.2.deep=0∨1000<r.2.deep then none else some (r.1,{ r.2 with deep:=r.2.deep-1 })
def J1 (e:PM Nd):PM Nd:=fun p =>
 (qF T [40] p).bind fun p1=>(Yt T e p1).bind fun r=>(qF T [41] r.2).map fun p2=>(r.1,p2)
def X4 (kinds:List (Int×Int)):PM Nd:=fun p =>
 (zX T p).bind fun t=>let k:=((kinds.find? fun q=>q.1==t.kind).map (·.2)).getD 0
  if k=0 then (Zc T 14 p).map fun p1=>(JH,p1) else (ZP T p).map fun r=>(.mk k t.text t.num t.pos [] [],r.2)
def tyL (e:PM Nd):Nat→Nd→PM Nd
 | 0,_=>fun _=>none
 | n+1,nd=>fun p=>(zX T p).bind fun t =>
  if t.kind=3 then (ZP T p).bind fun r=>tyL e n (nd.addKid (zR 27 t.pos t.text [])) r.2
  else (Y1 T [40] p).bind fun b=>if b then (J1 T e p).bind fun r=>tyL e n (nd.addKid r.1) r.2 else some (nd,p)
def tyS (e:PM Nd):PM Nd:=fun p=>(Yg T 3 p).bind fun r=>tyL T e (T.length+2) (zR 27 r.1.pos r.1.text []) r.2
def tyF:Nat→PM Nd
 | 0=>fun _=>none
 | n+1=>tyS T (tyF n)
def zfE (e:PM Nd):Nat→Bool→Nd→PM Nd
 | 0,_,_=>fun _=>none
 | n+1,more,nd=>fun p=>if more∧p.e=0 then (Qk T nd.kids.length 4 p).bind fun p1=>(Yt T e p1).bind fun r=>(Xz T [44] r.2).bind fun q=>zfE e n q.1 (nd.addKid r.1) q.2 else some (nd,p)
def zh5 (e:PM Nd):PM Nd:=fun p=>(Yg T 4 p).bind fun r=>(Xz T [111,102] r.2).bind fun q =>
 if q.1 then zfE T e (T.length+2) true (zR 26 r.1.pos r.1.text []) q.2 else some (zR 26 r.1.pos r.1.text [],q.2)
def Yh:Nat→Nd→PM Nd
 | 0,_=>fun _=>none
 | n+1,nd=>fun p=>(zX T p).bind fun t=>if t.kind=3 then (Qk T nd.names.length 4 p).bind fun p1=>(ZP T p1).bind fun r=>Yh n (nd.addName r.1.text) r.2 else some (nd,p)
def V4 (e:PM Nd):Nat→Bool→Nd→PM Nd
 | 0,_,_=>fun _=>none
 | n+1,more,nd=>fun p=>if more∧p.e=0 then (Qk T nd.kids.length 20 p).bind fun p1=>(zh5 T e p1).bind fun r=>(Xz T [124] r.2).bind fun q=>V4 e n q.1 (nd.addKid r.1) q.2 else some (nd,p)
def Xs (e:PM Nd):PM Nd:=fun p=>(ZP T p).bind fun r=>(Yg T 3 r.2).bind fun q=>(Yh T (T.length+2) (zR 25 r.1.pos q.1.text []) q.2).bind fun u =>
 (qF T [61] u.2).bind fun p1=>V4 T e (T.length+2) true u.1 p1
def Y0 (e:PM Nd):PM Nd:=fun p=>(zX T p).bind fun t=>(Xz T [95] p).bind fun q =>
 if q.1 then some (zR 24 t.pos [] [],q.2) else (Y1 T [40] q.2).bind fun b=>if b then J1 T e q.2 else X4 T [(1,1),(3,4),(4,5)] q.2
def zaR (p:PS):Option Bool:=(zX T p).map fun t=>isT t [95] || isT t [40] || t.kind==3 || t.kind==1 || t.kind==4
def zbM (e:PM Nd):Nat→Bool→Nd→PM Nd
 | 0,_,_=>fun _=>none
 | n+1,con,nd=>fun p=>if con then (zaR T p).bind fun b=>if b then (Qk T nd.kids.length 4 p).bind fun p1=>(Y0 T e p1).bind fun r=>zbM e n con (nd.addKid r.1) r.2 else some (nd,p) else some (nd,p)
def zjY (e:PM Nd):PM Nd:=fun p=>(zX T p).bind fun t=>(Y0 T e p).bind fun r=>zbM T e (T.length+2) (t.kind==4) r.1 r.2
def zk4:Nat→PM Nd
 | 0=>fun _=>none
 | n+1=>zjY T (zk4 n)
def XR (e:PM Nd):PM Nd:=fun p=>(Yt T e { p with flat:=false }).map fun r=>(r.1,{ r.2 with flat:=p.flat })
def XS (e pt:PM Nd):Nat→Bool→Nd→PM Nd
 | 0,_,_=>fun _=>none
 | n+1,first,nd=>fun p=>(if first then some true else Y1 T [124] p).bind fun b =>
  if b then (Qk T (Int.tdiv nd.kids.length 2) 20 p).bind fun p1=>(qF T [124] p1).bind fun p2=>(Yt T pt p2).bind fun r=>(qF T [45,62] r.2).bind fun p3=>(XR T e p3).bind fun q=>XS e pt n false (nd.addKids [r.1,q.1]) q.2
  else some (nd,p)
def VX (e pt:PM Nd):PM Nd:=fun p=>(ZP T p).bind fun r=>(XR T e r.2).bind fun q=>(qF T [119,105,116,104] q.2).bind fun p1=>(XS T e pt (T.length+2) true (zR 11 r.1.pos [] [q.1]) p1).bind fun u =>
 (qF T [101,110,100] u.2).map fun p2=>(u.1,p2)
def zhw (e:PM Nd):PM Nd:=fun p=>(ZP T p).bind fun r=>(XR T e r.2).bind fun q=>(qF T [119,105,116,104] q.2).bind fun p1=>(Yg T 3 p1).bind fun u=>(qF T [45,62] u.2).bind fun p2 =>
 (XR T e p2).bind fun v=>(qF T [101,110,100] v.2).map fun p3=>(zR 12 r.1.pos u.1.text [q.1,v.1],p3)
def YU (e pt:PM Nd):PM Nd:=fun p=>(zX T p).bind fun t =>
 if isT t [109,97,116,99,104] then VX T e pt p
 else if isT t [116,114,121] then zhw T e p
 else if isT t [114,101,116,114,121] then (ZP T p).map fun r=>(zR 19 t.pos [] [],r.2)
 else if isT t [40] then (ZP T p).bind fun r=>(Xz T [41] r.2).bind fun q =>
  if q.1 then some (zR 3 t.pos [] [],q.2) else (XR T e q.2).bind fun u=>(qF T [41] u.2).map fun p1=>(u.1,p1)
 else X4 T [(1,1),(2,2),(3,4),(4,5)] p
def QT (t:Tk):Bool:=t.kind==1 || t.kind==2 || t.kind==3 || t.kind==4 || isT t [40] || isT t [114,101,116,114,121] || isT t [109,97,116,99,104] || isT t [116,114,121]
def Qn (s:Tx):Int×Int :=
 if s=[112,114,105,110,116] then (15,1) else if s=[114,97,105,115,101] then (16,1) else if s=[115,112,97,119,110] then (17,1)
 else if s=[97,116,111,109,105,99,97,108,108,121] then (18,1) else if s=[116,118,97,114] then (21,1) else if s=[114,101,97,100] then (22,1)
 else if s=[119,114,105,116,101] then (23,2) else if s=[111,114,101,108,115,101] then (20,2) else (0,0)
def Jp (e pt:PM Nd):Nat→Nd→PM Nd
 | 0,nd=>fun p=>some (nd,p)
 | n+1,nd=>fun p=>(YU T e pt p).bind fun r=>Jp e pt n (nd.addKid r.1) r.2
def Vv (e pt:PM Nd):Nat→Bool→Nd→PM Nd
 | 0,_,_=>fun _=>none
 | n+1,bare,nd=>fun p=>(zX T p).bind fun t=>if QT t then
   (if bare then (Qk T nd.kids.length 4 p).bind fun p1=>(YU T e pt p1).bind fun r=>Vv e pt n bare (nd.addKid r.1) r.2
   else (YU T e pt p).bind fun r=>Vv e pt n bare (zR 7 nd.pos [] [nd,r.1]) r.2) else some (nd,p)
def zhp (e pt:PM Nd):PM Nd:=fun p=>(zX T p).bind fun t =>
 if t.kind=6∧0<(Qn t.text).1 then (ZP T p).bind fun r=>Jp T e pt (Qn t.text).2.toNat (zR (Qn t.text).1 t.pos [] []) r.2
 else (YU T e pt p).bind fun r=>Vv T e pt (T.length+2) (t.kind==4) r.1 r.2
def za4 (part:PM Nd) (signs:List Tx):Nat→Tk→Nd→PM Nd
 | 0,_,_=>fun _=>none
 | n+1,t,nd=>fun p=>if t.kind=5∧t.text∈signs then (ZP T p).bind fun r=>(part r.2).bind fun q=>(zX T q.2).bind fun t'=>za4 part signs n t' (zR 13 nd.pos t.text [nd,q.1]) q.2 else some (nd,p)
def za9 (part:PM Nd) (signs:List Tx):PM Nd:=fun p=>(part p).bind fun r=>(zX T r.2).bind fun t=>za4 T part signs (T.length+2) t r.1 r.2
def zhq:List Tx:=[[42],[47],[37]]
def signsP:List Tx:=[[43],[45],[94]]
def zyL (e pt:PM Nd):PM Nd:=za9 T (zhp T e pt) zhq
def znX (e pt:PM Nd):PM Nd:=za9 T (zyL T e pt) signsP
def zhK (e pt:PM Nd):PM Nd:=fun p=>(znX T e pt p).bind fun r=>(zX T r.2).bind fun t =>
 if isT t [61]∨isT t [60] then (ZP T r.2).bind fun q=>(znX T e pt q.2).map fun u=>(zR 13 r.1.pos t.text [r.1,u.1],u.2) else some (r.1,r.2)
def YB (e:PM Nd):PM (Tx×Bool×Nd):=fun p=>(Xz T [114,101,99] p).bind fun r=>(Yg T 3 r.2).bind fun q=>(qF T [61] q.2).bind fun p1 =>
 (if r.1∧p1.deep<40 then (Y1 T [102,117,110] p1).bind fun b=>if b then some p1 else Zc T 14 p1 else some p1).bind fun p2 =>
 (Yt T e p2).map fun u=>((q.1.text,r.1,u.1),u.2)
def zkO (e:PM Nd):PM Nd:=fun p=>(ZP T p).bind fun r=>(YB T e r.2).bind fun q=>(qF T [105,110] q.2).bind fun p1=>(Yt T e p1).map fun u =>
 (zR (if q.1.2.1 then 9 else 8) r.1.pos q.1.1 [q.1.2.2,u.1],u.2)
def zkt (e:PM Nd):PM Nd:=fun p=>(ZP T p).bind fun r=>(Yg T 3 r.2).bind fun q=>(qF T [45,62] q.2).bind fun p1=>(Yt T e p1).map fun u=>(zR 6 r.1.pos q.1.text [u.1],u.2)
def VB (e:PM Nd):PM Nd:=fun p=>(ZP T p).bind fun r=>(Yt T e r.2).bind fun c=>(qF T [116,104,101,110] c.2).bind fun p1=>(Yt T e p1).bind fun a=>(qF T [101,108,115,101] a.2).bind fun p2 =>
 (Yt T e p2).map fun b=>(zR 10 r.1.pos [] [c.1,a.1,b.1],b.2)
def zh2 (e pt:PM Nd):PM Nd:=fun p=>(zX T p).bind fun t =>
 if t.kind=6∧t.text=[108,101,116] then zkO T e p
 else if t.kind=6∧t.text=[102,117,110] then zkt T e p
 else if t.kind=6∧t.text=[105,102] then VB T e p
 else (zhK T e pt p).bind fun r=>(if r.2.flat then some (false,r.2) else Xz T [59] r.2).bind fun q =>
  if q.1 then (Yt T e q.2).map fun u=>(zR 14 r.1.pos [] [r.1,u.1],u.2) else some (r.1,q.2)
def zlu:Nat→PM Nd
 | 0=>fun _=>none
 | n+1=>zh2 T (zlu n) (zk4 T (n+1))
def zah (e ty:PM Nd):PM Nd:=fun p=>(Y1 T [116,121,112,101] p).bind fun b =>
 (if b then Xs T ty p else (ZP T p).bind fun r=>(YB T e { r.2 with flat:=true }).map fun q=>(zR (if q.1.2.1 then 29 else 28) r.1.pos q.1.1 [q.1.2.2],{ q.2 with flat:=false })).bind fun u =>
 (qF T [59] u.2).map fun p1=>(u.1,p1)
def Vo (e ty:PM Nd):Nat→Nd→PM Nd
 | 0,_=>fun _=>none
 | n+1,nd=>fun p=>(Y1 T [116,121,112,101] p).bind fun a=>(if a then some true else Y1 T [108,101,116] p).bind fun b =>
  if b then (Qk T nd.kids.length 60 p).bind fun p1=>(zah T e ty p1).bind fun r=>Vo e ty n (nd.addKid r.1) r.2 else some (nd,p)
def zcp (e ty:PM Nd):PM Nd:=fun p=>(zX T p).bind fun t=>(Vo T e ty (T.length+2) (zR 30 t.pos [] []) p).bind fun r=>(qF T [100,111] r.2).bind fun p1 =>
 (Yt T e p1).bind fun u=>(zX T u.2).bind fun t'=>(if t'.kind≠0 then Zc T 14 u.2 else some u.2).map fun p2=>(r.1.addKid u.1,p2)
def VP:Option (Nd×Int×Int):=(zcp T (zlu T 42) (tyF T 42) ⟨0,0,false,0,0⟩).map fun r=>if r.2.e=0 then (r.1,0,0) else (JH,r.2.bad,r.2.e)
end
end Go.AL
namespace Go.AL
def Z4 (c:UInt8):Bool:=decide (97≤c)&&decide (c≤122)
def Zw (c:UInt8):Bool:=decide (65≤c)&&decide (c≤90)
def qt (c:UInt8):Bool:=decide (48≤c)&&decide (c≤57)
def qc (c:UInt8):Bool:=Z4 c || Zw c || qt c || c==95
def J2 (c:UInt8):Bool:=decide (32≤c)&&decide (c≤126)&&c != 34&&c != 92
def qz:Bool→Tx→Nat
 | _,[]=>0
 | true,c::r=>if c=10 then qz false r+1 else qz true r+1
 | false,c::r=>if c=32∨c=9∨c=10 then qz false r+1 else if c=35 then qz true r+1 else 0
def ql (p:UInt8→Bool):Tx→Nat
 | []=>0
 | c::r=>if p c then ql p r+1 else 0
def Qc (d:Tx):Nat:=d.foldl (fun v c=>10*v+(c.toNat-48)) 0
def keysL:List Tx:=[[108,101,116],[114,101,99],[105,110],[102,117,110],[105,102],[116,104,101,110],[101,108,115,101],[109,97,116,99,104],[119,105,116,104],[101,110,100],[116,114,121],[112,114,105,110,116],[114,97,105,115,101],[115,112,97,119,110],[97,116,111,109,105,99,97,108,108,121],[114,101,116,114,121],[111,114,101,108,115,101],[116,118,97,114],[114,101,97,100],[119,114,105,116,101],[116,121,112,101],[111,102],[100,111]]
def signsL:Tx:=[61,60,43,45,42,47,37,94,59,124,40,41,44,95]
def hexL:Tx:=[48,49,50,51,52,53,54,55,56,57,97,98,99,100,101,102]
def YW (c:UInt8):Option Nat:=hexL.findIdx? (· == c)
def JE:Tx→Except Int (UInt8×Nat)
 | [] =>.error 11
 | c::r=>if c=110 then .ok (10,1) else if c=34 then .ok (34,1) else if c=92 then .ok (92,1) else if c≠120 then .error 10 else
  match r with
  | [] =>.error 11
  | a::r=>match YW a with
   | none =>.error 10
   | some x=>match r with
    | [] =>.error 11
    | b::_=>match YW b with
     | none =>.error 10
     | some y =>.ok (UInt8.ofNat (16*x+y),3)
def YS:Nat→Tx→Tx→Nat→Except Int (Tx×Nat)
 | 0,_,_,_ =>.error 11
 | _+1,[],_,_ =>.error 11
 | n+1,c::r,b,k=>if c=10 then .error 11 else if c=34 then (if 60<b.length then .error 12 else .ok (b,k+1))
  else if c=92 then (match JE r with
   | .error e =>.error e
   | .ok (x,m)=>YS n (r.drop m) (b++[x]) (k+1+m))
  else if J2 c then YS n r (b++[c]) (k+1) else .error 10
def zaZ (s:Tx):Except Int (Tx×Nat):=match s with
 | [] =>.error 14
 | c::r=>if c=34 then YS (r.length+1) r [] 1 else .error 14
def Yl (s:Tx) (pos:Int):Except Int (Tk×Nat):=match s with
 | [] =>.error 10
 | c::r =>
  if qt c then (if 4611686018427387903<Qc (s.take (ql qt s)) then .error 13 else .ok (⟨1,[],Qc (s.take (ql qt s)),pos⟩,ql qt s))
  else if c=34 then (match zaZ s with
   | .error e =>.error e
   | .ok (t,n) =>.ok (⟨2,t,0,pos⟩,n))
  else if Z4 c || Zw c then (if 16<ql qc s then .error 12 else .ok (⟨if Zw c then 4 else if s.take (ql qc s)∈keysL then 6 else 3,s.take (ql qc s),0,pos⟩,ql qc s))
  else if c∈signsL then (if r.head?=some 62∧c=45 then .ok (⟨5,[45,62],0,pos⟩,2) else .ok (⟨5,[c],0,pos⟩,1))
  else .error 10
def Zo:Nat→Tx→Nat→List Tk→Except (Nat×Int) (List Tk)
 | 0,_,_,_ =>.error (0,0)
 | n+1,s,k,out=>match s.drop (qz false s) with
  | [] =>.ok (out++[⟨0,[],0,((k+qz false s:Nat):Int)⟩])
  | c::r=>match Yl (c::r) ((k+qz false s:Nat):Int) with
   | .error e =>.error (k+qz false s,e)
   | .ok (t,m)=>Zo n ((c::r).drop m) (k+qz false s+m) (out++[t])
def YQ (s:Tx):Except (Nat×Int) (List Tk):=if 2000<s.length then .error (0,12) else Zo (s.length+1) s 0 []
def qP (s:Tx):Option (Nd×Int×Int):=match YQ s with
 | .error (a,e)=>some (JH,a,e)
 | .ok T=>VP T
end Go.AL
namespace Go.AL
theorem zdd (c:UInt8) (l p:Tx):Lib.contains (c::l) p=(p.isPrefixOf (c::l) || Lib.contains l p):=by
 have h:=Lib.index_ge l p
 unfold Lib.contains
 rw[show Lib.index (c::l) p=if p.isPrefixOf (c::l) then 0 else if Lib.index l p == -1 then -1 else Lib.index l p+1 by rw[Lib.index]]
 cases hp:p.isPrefixOf (c::l) with
 | true=>simp
 | false =>
  by_cases h1:Lib.index l p = -1
  ·simp[h1]
  ·have h2:(Lib.index l p == -1)=false:=by simp[h1]
   simp only[h2,Bool.false_eq_true,if_false,Bool.false_or]
   rw[decide_eq_decide];omega
theorem zjV (c:UInt8) (p:Tx):Lib.contains [] (c::p)=false:=by
 simp[Lib.contains,Lib.index]
theorem zcF (p:Tx):∀ (w r:Tx),(∀ c∈w,c≠32)→Lib.contains (w++r) (32::p)=Lib.contains r (32::p)
 | [],r,_=>rfl
 | c::w,r,h=>by
  rw[List.cons_append,zdd,zcF p w r fun x hx=>h x (List.mem_cons_of_mem _ hx)]
  have:(32::p).isPrefixOf (c::(w++r))=false:=by
   rw[List.isPrefixOf]
   have:(32==c)=false:=by
    have:=h c List.mem_cons_self
    simp;exact fun e=>this e.symm
   rw[this];rfl
  rw[this,Bool.false_or]
theorem ziS:∀ (s w r:Tx),(∀ c∈s,c≠32)→(∀ c∈w,c≠32)→(s++[32]).isPrefixOf (w++32::r)=decide (s=w)
 | [],[],r,_,_=>by simp[List.isPrefixOf]
 | [],c::w,r,_,h=>by
  have:(32==c)=false:=by
   have:=h c List.mem_cons_self
   simp;exact fun e=>this e.symm
  simp[List.isPrefixOf,this]
 | c::s,[],r,h,_=>by
  have:(c==32)=false:=by
   have:=h c List.mem_cons_self
   simp;exact this
  simp[List.isPrefixOf,this]
 | c::s,d::w,r,h,k=>by
  have ih:=ziS s w r (fun x hx=>h x (List.mem_cons_of_mem _ hx)) (fun x hx=>k x (List.mem_cons_of_mem _ hx))
  rw[List.cons_append,List.cons_append,List.isPrefixOf,ih]
  by_cases e:c=d
  ·subst e;simp
  ·simp[e]
def zgK (ws:List Tx):Tx:=ws.flatMap fun w=>w++[32]
theorem zgu (s:Tx) (hs:∀ c∈s,c≠32):∀ ws:List Tx,(∀ w∈ws,∀ c∈w,c≠32)→Lib.contains (32::zgK ws) (32::(s++[32]))=decide (s∈ws)
 | [],_=>by
  rw[zdd]
  simp only[zgK,List.flatMap_nil,zjV,Bool.or_false,List.not_mem_nil,decide_false]
  cases s with
  | nil=>rfl
  | cons c s=>rfl
 | w::ws,h=>by
  have ih:=zgu s hs ws fun x hx=>h x (List.mem_cons_of_mem _ hx)
  have e:zgK (w::ws)=w++(32::zgK ws):=by simp[zgK]
  rw[zdd,e,zcF _ _ _ (h w List.mem_cons_self),ih,List.isPrefixOf,ziS s w _ hs (h w List.mem_cons_self)]
  by_cases q:s=w
  ·subst q;simp
  ·simp[q]
def zeu:Tx:=[32,108,101,116,32,114,101,99,32,105,110,32,102,117,110,32,105,102,32,116,104,101,110,32,101,108,115,101,32,109,97,116,99,104,32,119,105,116,104,32,101,110,100,32,116,114,121,32,112,114,105,110,116,32,114,97,105,115,101,32,115,112,97,119,110,32,97,116,111,109,105,99,97,108,108,121,32,114,101,116,114,121,32,111,114,101,108,115,101,32,116,118,97,114,32,114,101,97,100,32,119,114,105,116,101,32,116,121,112,101,32,111,102,32,100,111,32]
theorem zs1 (s:Tx) (hs:∀ c∈s,c≠32):Lib.contains zeu (32::(s++[32]))=decide (s∈keysL):=by
 have:zeu=32::zgK keysL:=by decide
 rw[this]
 exact zgu s hs keysL (by decide)
theorem zqT (s:Tx) (hs:∀ c∈s,c≠32):Lib.contains s [32]=false:=by
 have:=zcF [] s [] hs
 rw[List.append_nil] at this
 rw[this];exact zjV _ _
theorem zp2 {l:Tx}:∀ c∈l.take (ql qc l),qc c=true:=by
 induction l with
 | nil=>intro c hc;cases hc
 | cons d l ih =>
  intro c hc
  unfold ql at hc
  split at hc
  ·rename_i h
   rw[List.take_succ_cons] at hc
   rcases List.mem_cons.1 hc with rfl | hc
   ·exact h
   ·exact ih c hc
  ·cases hc
theorem zjE {c:UInt8} (h:qc c=true):c≠32:=by rintro rfl;revert h;decide
end Go.AL
namespace Go.AL
theorem zjP (a:Tx) (c:UInt8):Qc (a++[c])=10*Qc a+(c.toNat-48):=by simp[Qc]
theorem ziy {d:Tx} {j:Nat} (h:j<d.length):Qc (d.take (j+1))=10*Qc (d.take j)+(d[j].toNat-48):=by
 rw[List.take_succ_eq_append_getElem h,zjP]
theorem zoW:∀ (b a:Tx),Qc a≤Qc (a++b)
 | [],a=>by simp
 | c::b,a=>by
  have h:=zoW b (a++[c])
  rw[List.append_assoc] at h
  rw[zjP] at h
  simp only[List.cons_append,List.nil_append] at h
  omega
theorem zdB (d:Tx) (j:Nat):Qc (d.take j)≤Qc d:=by
 have:=zoW (d.drop j) (d.take j)
 rwa[List.take_append_drop] at this
theorem zfa:∀ l:Tx,Qc (l.dropWhile (· == 48))=Qc l
 | []=>rfl
 | c::r=>by
  rw[List.dropWhile_cons]
  split
  ·rename_i h
   rw[zfa r]
   have:c=48:=by simpa using h
   subst this
   simp[Qc]
  ·rfl
def JR (l:Tx):Tx:=if l.dropWhile (· == 48)=[] then [48] else l.dropWhile (· == 48)
theorem zpT (l:Tx):Qc (JR l)=Qc l:=by
 unfold JR
 split
 ·rename_i h
  rw[←zfa l,h];rfl
 ·exact zfa l
theorem zgw:∀ l:Tx,l.dropWhile (· == 48)≠[]→(l.dropWhile (· == 48)).headD 0≠48
 | [],h=>absurd rfl h
 | c::r,h=>by
  rw[List.dropWhile_cons] at h ⊢
  split
  ·rename_i hc
   rw[if_pos hc] at h
   exact zgw r h
  ·rename_i hc
   simpa using hc
theorem zr0 (l:Tx) (hl:∀ c∈l,qt c=true):JR l≠[]∧(∀ c∈JR l,qt c=true)∧((JR l).headD 0≠48∨(JR l).length=1):=by
 unfold JR
 split
 ·exact⟨by simp,fun c hc=>by simp at hc;subst hc;decide,.inr rfl⟩
 ·rename_i h
  exact⟨h,fun c hc=>hl c ((List.dropWhile_sublist _).mem hc),.inl (zgw l h)⟩
def za7 (d:Tx):Int×Int:=if 4611686018427387903<Qc d then (0,13) else (Qc d,0)
theorem zpN (v k:Nat) (hk:k≤9) (hv:v≤4611686018427387904):(-(v:Int)<Int.tdiv (-4611686018427387904+(k:Int)) 10)↔4611686018427387904<10*v+k:=by
 have h:(-4611686018427387904+(k:Int)) = -((4611686018427387904-k:Nat):Int):=by omega
 rw[h,Int.neg_tdiv,show Int.tdiv ((4611686018427387904-k:Nat):Int) 10=(((4611686018427387904-k) / 10:Nat):Int) by rfl]
 omega
end Go.AL
namespace Go.AL
section
variable (T:List Tk)
def Zp:PM Tk:=fun p=>(zX T p).map fun t=>if t.kind=0 then (tk0,p) else (t,{ p with pos:=p.pos+1 })
def Jt (k:Int):PM Tx:=fun p=>(Yg T k p).map fun r=>(r.1.text,r.2)
def atR (p:PS):Option Int:=(zX T p).map (·.pos)
def Ym (e:PM Nd):PM Nd:=fun p=>if 1000<p.deep then none else
 (if p.deep=40 then Zc T 15 p else some p).bind fun p1 =>
 if p1.e≠0 then some (JH,p1) else (e { p1 with deep:=p1.deep+1 }).bind fun r=>if r.2.deep=0∨1000<r.2.deep then none else some (r.1,{ r.2 with deep:=r.2.deep-1 })
def Yw (k:Int):PM Nd:=fun p=>(Zp T p).map fun r=>(.mk k r.1.text r.1.num r.1.pos [] [],r.2)
def zck (c:Prop) [Decidable c] (p:PS):Option PS:=if c then Zc T 16 p else some p
def zjv (ty:PM Nd):Nat→Nd→PM Nd
 | 0,_=>fun _=>none
 | n+1,nd=>fun p=>if p.e=0 then (zX T p).bind fun t =>
  if t.kind=3 then (Zp T p).bind fun r=>zjv ty n (nd.addKid (zR 27 r.1.pos r.1.text [])) r.2
  else if isT t [40] then (Zp T p).bind fun r=>(ty r.2).bind fun q=>(qF T [41] q.2).bind fun p1=>zjv ty n (nd.addKid q.1) p1 else some (nd,p)
  else some (nd,p)
def tyB (ty:PM Nd):PM Nd:=fun p=>(atR T p).bind fun a=>(Jt T 3 p).bind fun r=>zjv T ty (T.length+2) (zR 27 a r.1 []) r.2
def tyI:Nat→PM Nd
 | 0=>fun _=>none
 | n+1=>tyB T (Ym T (tyI n))
def zgd (ty:PM Nd):Nat→Bool→Nd→PM Nd
 | 0,_,_=>fun _=>none
 | n+1,more,nd=>fun p=>if more∧p.e=0 then (Zp T p).bind fun r=>(zck T (nd.kids.length=4) r.2).bind fun p1=>(ty p1).bind fun q=>(Y1 T [44] q.2).bind fun b=>zgd ty n b (nd.addKid q.1) q.2 else some (nd,p)
def zje (ty:PM Nd):PM Nd:=fun p=>(atR T p).bind fun a=>(Jt T 4 p).bind fun r=>(Y1 T [111,102] r.2).bind fun b=>zgd T ty (T.length+2) b (zR 26 a r.1 []) r.2
def zaI:Nat→Nd→PM Nd
 | 0,_=>fun _=>none
 | n+1,nd=>fun p=>(zX T p).bind fun t=>if t.kind=3 then (if nd.names.length=4 then (Zc T 16 p).map fun p1=>(nd,p1) else (Zp T p).bind fun r=>zaI n (nd.addName r.1.text) r.2) else some (nd,p)
def zdc (ty:PM Nd):Nat→Bool→Nd→PM Nd
 | 0,_,_=>fun _=>none
 | n+1,more,nd=>fun p=>if more∧p.e=0 then (zck T (nd.kids.length=20) p).bind fun p1=>(zje T ty p1).bind fun r=>(Xz T [124] r.2).bind fun q=>zdc ty n q.1 (nd.addKid r.1) q.2 else some (nd,p)
def zbv (pt:PM Nd):PM Nd:=fun p=>(zX T p).bind fun t =>
 if t.kind=1 then Yw T 1 p else if t.kind=3 then Yw T 4 p else if t.kind=4 then Yw T 5 p
 else if isT t [95] then (Zp T p).map fun r=>(zR 24 r.1.pos [] [],r.2)
 else if isT t [40] then (Zp T p).bind fun r=>(pt r.2).bind fun q=>(qF T [41] q.2).map fun p1=>(q.1,p1)
 else (Zc T 14 p).map fun p1=>(JH,p1)
def zdp (pt:PM Nd):Nat→Bool→Nd→PM Nd
 | 0,_,_=>fun _=>none
 | n+1,con,nd=>fun p=>if con then (zaR T p).bind fun b=>if b then (if nd.kids.length=4 then (Zc T 16 p).map fun p1=>(nd,p1) else (zbv T pt p).bind fun r=>zdp pt n con (nd.addKid r.1) r.2) else some (nd,p) else some (nd,p)
def zoB (pt:PM Nd):PM Nd:=fun p=>(zX T p).bind fun t=>(zbv T pt p).bind fun r=>zdp T pt (T.length+2) (t.kind==4) r.1 r.2
def zsz:Nat→PM Nd
 | 0=>fun _=>none
 | n+1=>zoB T (Ym T (zsz n))
def QL (e:PM Nd):PM Nd:=fun p=>(e { p with flat:=false }).map fun r=>(r.1,{ r.2 with flat:=p.flat })
def zaJ (e pt:PM Nd):Nat→Bool→Nd→PM Nd
 | 0,_,_=>fun _=>none
 | n+1,more,nd=>fun p=>if more then (zck T (nd.kids.length=41) p).bind fun p1=>(qF T [124] p1).bind fun p2=>(pt p2).bind fun r=>(qF T [45,62] r.2).bind fun p3=>(QL e p3).bind fun q=>(Y1 T [124] q.2).bind fun b =>
   zaJ e pt n b ((nd.addKid r.1).addKid q.1) q.2
  else some (nd,p)
def zoT (e:PM Nd) (a:Int) (x:Nd):PM Nd:=fun p=>(Jt T 3 p).bind fun u=>(qF T [45,62] u.2).bind fun p2=>(QL e p2).bind fun v=>(qF T [101,110,100] v.2).map fun p3=>(zR 12 a u.1 [x,v.1],p3)
def zec (e pt:PM Nd) (a:Int) (x:Nd):PM Nd:=fun p=>(zaJ T e pt (T.length+2) true (zR 11 a [] [x]) p).bind fun u=>(qF T [101,110,100] u.2).map fun p2=>(u.1,p2)
def Yy (e pt:PM Nd):PM Nd:=fun p=>(zX T p).bind fun t =>
 if t.kind=1 then Yw T 1 p else if t.kind=2 then Yw T 2 p else if t.kind=3 then Yw T 4 p else if t.kind=4 then Yw T 5 p
 else if isT t [114,101,116,114,121] then (Zp T p).map fun r=>(zR 19 t.pos [] [],r.2)
 else if isT t [40] then (Zp T p).bind fun r=>(Xz T [41] r.2).bind fun q =>
  if q.1 then some (zR 3 t.pos [] [],q.2) else (QL e q.2).bind fun u=>(qF T [41] u.2).map fun p1=>(u.1,p1)
 else if isT t [116,114,121] then (Zp T p).bind fun r=>(QL e r.2).bind fun q=>(qF T [119,105,116,104] q.2).bind fun p1=>zoT T e t.pos q.1 p1
 else if isT t [109,97,116,99,104] then (Zp T p).bind fun r=>(QL e r.2).bind fun q=>(qF T [119,105,116,104] q.2).bind fun p1=>zec T e pt t.pos q.1 p1
 else (Zc T 14 p).map fun p1=>(JH,p1)
def Yq (t:Tk):Int×Int:=if t.kind=5∨t.kind=6 then Qn t.text else (0,0)
def zac (e pt:PM Nd):Nat→Bool→Nd→PM Nd
 | 0,_,_=>fun _=>none
 | n+1,con,nd=>fun p=>(zX T p).bind fun t=>if QT t then
   (if con then (if nd.kids.length=4 then (Zc T 16 p).map fun p1=>(nd,p1) else (Yy T e pt p).bind fun r=>zac e pt n con (nd.addKid r.1) r.2)
   else (Yy T e pt p).bind fun r=>zac e pt n con (zR 7 nd.pos [] [nd,r.1]) r.2) else some (nd,p)
def zik (e pt:PM Nd):PM Nd:=fun p=>(zX T p).bind fun t =>
 if 0<(Yq t).1 then (Zp T p).bind fun r=>(Yy T e pt r.2).bind fun q=>if (Yq t).2=2 then (Yy T e pt q.2).map fun u=>(zR (Yq t).1 r.1.pos [] [q.1,u.1],u.2) else some (zR (Yq t).1 r.1.pos [] [q.1],q.2)
 else (Yy T e pt p).bind fun r=>zac T e pt (T.length+2) (t.kind==4) r.1 r.2
def opR (t:Tk) (a b c:Tx):Tx:=if isT t a then a else if isT t b then b else if isT t c then c else []
def VA (part:PM Nd) (a b c:Tx):Nat→Nd→PM Nd
 | 0,_=>fun _=>none
 | n+1,nd=>fun p=>(zX T p).bind fun t=>if opR t a b c≠[] then (Zp T p).bind fun r=>(part r.2).bind fun q=>VA part a b c n (zR 13 nd.pos (opR t a b c) [nd,q.1]) q.2 else some (nd,p)
def zdh (part:PM Nd) (a b c:Tx):PM Nd:=fun p=>(part p).bind fun r=>VA T part a b c (T.length+2) r.1 r.2
def zxJ (e pt:PM Nd):PM Nd:=zdh T (zik T e pt) [42] [47] [37]
def zrw (e pt:PM Nd):PM Nd:=zdh T (zxJ T e pt) [43] [45] [94]
def zfr (e pt:PM Nd):PM Nd:=fun p=>(zrw T e pt p).bind fun r=>(zX T r.2).bind fun t=>if opR t [61] [60] [61]≠[] then (Zp T r.2).bind fun q=>(zrw T e pt q.2).map fun u=>(zR 13 r.1.pos (opR t [61] [60] [61]) [r.1,u.1],u.2) else some (r.1,r.2)
def J0 (e:PM Nd):PM (Tx×Bool×Nd):=fun p=>(Xz T [114,101,99] p).bind fun r=>(Jt T 3 r.2).bind fun q=>(qF T [61] q.2).bind fun p1=>(Y1 T [102,117,110] p1).bind fun f =>
 (if r.1∧¬ f∧p1.deep<40 then Zc T 14 p1 else some p1).bind fun p2=>(e p2).map fun u=>((q.1,r.1,u.1),u.2)
def ze3 (e pt:PM Nd):PM Nd:=fun p=>(zX T p).bind fun t =>
 if isT t [108,101,116] then (Zp T p).bind fun r=>(J0 T e r.2).bind fun q=>(qF T [105,110] q.2).bind fun p1=>(e p1).map fun u=>(zR (if q.1.2.1 then 9 else 8) t.pos q.1.1 [q.1.2.2,u.1],u.2)
 else if isT t [102,117,110] then (Zp T p).bind fun r=>(Jt T 3 r.2).bind fun q=>(qF T [45,62] q.2).bind fun p1=>(e p1).map fun u=>(zR 6 t.pos q.1 [u.1],u.2)
 else if isT t [105,102] then (Zp T p).bind fun r=>(e r.2).bind fun c=>(qF T [116,104,101,110] c.2).bind fun p1=>(e p1).bind fun a=>(qF T [101,108,115,101] a.2).bind fun p2=>(e p2).map fun b=>(zR 10 t.pos [] [c.1,a.1,b.1],b.2)
 else (zfr T e pt p).bind fun r=>(Y1 T [59] r.2).bind fun b=>if b∧¬ r.2.flat then (Zp T r.2).bind fun q=>(e q.2).map fun u=>(zR 14 r.1.pos [] [r.1,u.1],u.2) else some (r.1,r.2)
def zto:Nat→PM Nd
 | 0=>fun _=>none
 | n+1=>ze3 T (Ym T (zto n)) (Ym T (zsz T (n+1)))
def zlQ (ty:PM Nd) (a:Int):PM Nd:=fun p=>(Jt T 3 p).bind fun q=>(zaI T (T.length+2) (zR 25 a q.1 []) q.2).bind fun u=>(qF T [61] u.2).bind fun p1=>zdc T ty (T.length+2) true u.1 p1
def zjo (e ty:PM Nd):PM Nd:=fun p=>(Y1 T [116,121,112,101] p).bind fun b=>(Zp T p).bind fun r =>
 (if b then zlQ T ty r.1.pos r.2 else (J0 T e { r.2 with flat:=true }).map fun q=>(zR (if q.1.2.1 then 29 else 28) r.1.pos q.1.1 [q.1.2.2],{ q.2 with flat:=false })).bind fun u =>
 (qF T [59] u.2).map fun p1=>(u.1,p1)
def zc1 (e ty:PM Nd):Nat→Nd→PM Nd
 | 0,_=>fun _=>none
 | n+1,nd=>fun p=>(zX T p).bind fun t=>if isT t [116,121,112,101]∨isT t [108,101,116] then (if nd.kids.length=60 then (Zc T 16 p).map fun p1=>(nd,p1) else (zjo T e ty p).bind fun r=>zc1 e ty n (nd.addKid r.1) r.2) else some (nd,p)
def zmj (e ty:PM Nd):PM Nd:=fun p=>(atR T p).bind fun a=>(zc1 T e ty (T.length+2) (zR 30 a [] []) p).bind fun r=>(qF T [100,111] r.2).bind fun p1 =>
 (e p1).bind fun u=>(zX T u.2).bind fun t'=>(if t'.kind≠0 then Zc T 14 u.2 else some u.2).map fun p2=>(r.1.addKid u.1,p2)
def zdY:Option (Nd×Int×Int):=(zmj T (Ym T (zto T 42)) (Ym T (tyI T 42)) ⟨0,0,false,0,0⟩).map fun r=>if r.2.e=0 then (r.1,0,0) else (JH,r.2.bad,r.2.e)
end
end Go.AL
