/- The parser as plain functions: tokens, nodes, the state; each reads on only where the program does. -/
import Derived.Test.YtkokccjfpebomaaGreatDoorA9
import Derived.Lib.IndexMore
set_option linter.all false
namespace Go.AL
abbrev Tx:=List UInt8
abbrev ba (l:Tx):ByteArray:=⟨l.toArray⟩
structure Tk where
 kind:Int
 text:Tx
 num:Int
 pos:Int
 deriving DecidableEq
def gQ:Tk:=⟨0,[],0,0⟩
instance:Inhabited Tk:=⟨gQ⟩
inductive Nd where
 | mk (kind:Int) (text:Tx) (num:Int) (pos:Int) (names:List Tx) (kids:List Nd)
namespace Nd
def kind:Nd→Int | mk k _ _ _ _ _=>k
def text:Nd→Tx | mk _ t _ _ _ _=>t
def num:Nd→Int | mk _ _ n _ _ _=>n
def pos:Nd→Int | mk _ _ _ a _ _=>a
def names:Nd→List Tx | mk _ _ _ _ l _=>l
def kids:Nd→List Nd | mk _ _ _ _ _ l=>l
def addKid:Nd→Nd→Nd | mk x t n a l k,c=>mk x t n a l (k++[c])
def addKids:Nd→List Nd→Nd | mk x t n a l k,c=>mk x t n a l (k++c)
def addName:Nd→Tx→Nd | mk x t n a l k,c=>mk x t n a (l++[c]) k
end Nd
def VQ:Nd :=.mk 0 [] 0 0 [] []
instance:Inhabited Nd:=⟨VQ⟩
def zr(k a:Int)(t:Tx)(kids:List Nd):Nd :=.mk k t 0 a [] kids
structure PS where
 pos:Nat
 deep:Nat
 flat:Bool
 bad:Int
 e:Int
 deriving DecidableEq
abbrev PM (α:Type):=PS→Option (α×PS)
section
variable (T:List Tk)
def zE(p:PS):Option Tk:=if p.e=0 then T[p.pos]? else some gQ
def ZG:PM Tk:=fun p=>(zE T p).map fun t=>(t,if p.e=0∧t.kind≠0 then { p with pos:=p.pos+1 } else p)
def isT(t:Tk)(s:Tx):Bool:=(t.kind==5 || t.kind==6)&&t.text==s
def Ye(s:Tx)(p:PS):Option Bool:=(zE T p).map fun t=>isT t s
def Zh(e:Int)(p:PS):Option PS:=if p.e=0 then (T[p.pos]?).map fun t=>{ p with bad:=t.pos,e:=e } else some p
def Xc(s:Tx):PM Bool:=fun p=>(Ye T s p).bind fun b=>if b then (ZG T p).map fun r=>(true,r.2) else some (false,p)
def qp(s:Tx)(p:PS):Option PS:=(Xc T s p).bind fun r=>if r.1 then some r.2 else Zh T 14 r.2
def Qn(k:Int):PM Tk:=fun p=>(zE T p).bind fun t=>(if t.kind≠k then Zh T 14 p else some p).bind fun p1=>ZG T p1
def ZE(n m:Int)(p:PS):Option PS:=if m≤n then Zh T 16 p else some p
def Ys(e:PM Nd):PM Nd:=fun p =>
 (if 40≤p.deep then Zh T 15 p else some p).bind fun p1 =>
 if p1.e≠0 then some (VQ,p1) else (e { p1 with deep:=p1.deep+1 }).bind fun r=>if r.2.deep=0∨1000<r.2.deep then none else some (r.1,{ r.2 with deep:=r.2.deep-1 })
def Y0(e:PM Nd):PM Nd:=fun p =>
 (qp T [40] p).bind fun p1=>(Ys T e p1).bind fun r=>(qp T [41] r.2).map fun p2=>(r.1,p2)
def XC(kinds:List (Int×Int)):PM Nd:=fun p =>
 (zE T p).bind fun t=>let k:=((kinds.find? fun q=>q.1==t.kind).map (·.2)).getD 0
  if k=0 then (Zh T 14 p).map fun p1=>(VQ,p1) else (ZG T p).map fun r=>(.mk k t.text t.num t.pos [] [],r.2)
def j'(e:PM Nd):Nat→Nd→PM Nd
 | 0,_=>fun _=>none
 | n+1,nd=>fun p=>(zE T p).bind fun t =>
  if t.kind=3 then (ZG T p).bind fun r=>j' e n (nd.addKid (zr 27 t.pos t.text [])) r.2
  else (Ye T [40] p).bind fun b=>if b then (Y0 T e p).bind fun r=>j' e n (nd.addKid r.1) r.2 else some (nd,p)
def ma(e:PM Nd):PM Nd:=fun p=>(Qn T 3 p).bind fun r=>j' T e (T.length+2) (zr 27 r.1.pos r.1.text []) r.2
def BC:Nat→PM Nd
 | 0=>fun _=>none
 | n+1=>ma T (BC n)
def Um(e:PM Nd):Nat→Bool→Nd→PM Nd
 | 0,_,_=>fun _=>none
 | n+1,more,nd=>fun p=>if more∧p.e=0 then (ZE T nd.kids.length 4 p).bind fun p1=>(Ys T e p1).bind fun r=>(Xc T [44] r.2).bind fun q=>Um e n q.1 (nd.addKid r.1) q.2 else some (nd,p)
def HG(e:PM Nd):PM Nd:=fun p=>(Qn T 4 p).bind fun r=>(Xc T [111,102] r.2).bind fun q =>
 if q.1 then Um T e (T.length+2) true (zr 26 r.1.pos r.1.text []) q.2 else some (zr 26 r.1.pos r.1.text [],q.2)
def QF:Nat→Nd→PM Nd
 | 0,_=>fun _=>none
 | n+1,nd=>fun p=>(zE T p).bind fun t=>if t.kind=3 then (ZE T nd.names.length 4 p).bind fun p1=>(ZG T p1).bind fun r=>QF n (nd.addName r.1.text) r.2 else some (nd,p)
def Y7(e:PM Nd):Nat→Bool→Nd→PM Nd
 | 0,_,_=>fun _=>none
 | n+1,more,nd=>fun p=>if more∧p.e=0 then (ZE T nd.kids.length 20 p).bind fun p1=>(HG T e p1).bind fun r=>(Xc T [124] r.2).bind fun q=>Y7 e n q.1 (nd.addKid r.1) q.2 else some (nd,p)
def Q9(e:PM Nd):PM Nd:=fun p=>(ZG T p).bind fun r=>(Qn T 3 r.2).bind fun q=>(QF T (T.length+2) (zr 25 r.1.pos q.1.text []) q.2).bind fun u =>
 (qp T [61] u.2).bind fun p1=>Y7 T e (T.length+2) true u.1 p1
def QW(e:PM Nd):PM Nd:=fun p=>(zE T p).bind fun t=>(Xc T [95] p).bind fun q =>
 if q.1 then some (zr 24 t.pos [] [],q.2) else (Ye T [40] q.2).bind fun b=>if b then Y0 T e q.2 else XC T [(1,1),(3,4),(4,5)] q.2
def Vx(p:PS):Option Bool:=(zE T p).map fun t=>isT t [95] || isT t [40] || t.kind==3 || t.kind==1 || t.kind==4
def JM(e:PM Nd):Nat→Bool→Nd→PM Nd
 | 0,_,_=>fun _=>none
 | n+1,con,nd=>fun p=>if con then (Vx T p).bind fun b=>if b then (ZE T nd.kids.length 4 p).bind fun p1=>(QW T e p1).bind fun r=>JM e n con (nd.addKid r.1) r.2 else some (nd,p) else some (nd,p)
def HR(e:PM Nd):PM Nd:=fun p=>(zE T p).bind fun t=>(QW T e p).bind fun r=>JM T e (T.length+2) (t.kind==4) r.1 r.2
def Qj:Nat→PM Nd
 | 0=>fun _=>none
 | n+1=>HR T (Qj n)
def Xe(e:PM Nd):PM Nd:=fun p=>(Ys T e { p with flat:=false }).map fun r=>(r.1,{ r.2 with flat:=p.flat })
def Q1(e pt:PM Nd):Nat→Bool→Nd→PM Nd
 | 0,_,_=>fun _=>none
 | n+1,first,nd=>fun p=>(if first then some true else Ye T [124] p).bind fun b =>
  if b then (ZE T (Int.tdiv nd.kids.length 2) 20 p).bind fun p1=>(qp T [124] p1).bind fun p2=>(Ys T pt p2).bind fun r=>(qp T [45,62] r.2).bind fun p3=>(Xe T e p3).bind fun q=>Q1 e pt n false (nd.addKids [r.1,q.1]) q.2
  else some (nd,p)
def JH(e pt:PM Nd):PM Nd:=fun p=>(ZG T p).bind fun r=>(Xe T e r.2).bind fun q=>(qp T [119,105,116,104] q.2).bind fun p1=>(Q1 T e pt (T.length+2) true (zr 11 r.1.pos [] [q.1]) p1).bind fun u =>
 (qp T [101,110,100] u.2).map fun p2=>(u.1,p2)
def E6(e:PM Nd):PM Nd:=fun p=>(ZG T p).bind fun r=>(Xe T e r.2).bind fun q=>(qp T [119,105,116,104] q.2).bind fun p1=>(Qn T 3 p1).bind fun u=>(qp T [45,62] u.2).bind fun p2 =>
 (Xe T e p2).bind fun v=>(qp T [101,110,100] v.2).map fun p3=>(zr 12 r.1.pos u.1.text [q.1,v.1],p3)
def ZV(e pt:PM Nd):PM Nd:=fun p=>(zE T p).bind fun t =>
 if isT t [109,97,116,99,104] then JH T e pt p
 else if isT t [116,114,121] then E6 T e p
 else if isT t [114,101,116,114,121] then (ZG T p).map fun r=>(zr 19 t.pos [] [],r.2)
 else if isT t [40] then (ZG T p).bind fun r=>(Xc T [41] r.2).bind fun q =>
  if q.1 then some (zr 3 t.pos [] [],q.2) else (Xe T e q.2).bind fun u=>(qp T [41] u.2).map fun p1=>(u.1,p1)
 else XC T [(1,1),(2,2),(3,4),(4,5)] p
def qx(t:Tk):Bool:=t.kind==1 || t.kind==2 || t.kind==3 || t.kind==4 || isT t [40] || isT t [114,101,116,114,121] || isT t [109,97,116,99,104] || isT t [116,114,121]
def qT(s:Tx):Int×Int :=
 if s=[112,114,105,110,116] then (15,1) else if s=[114,97,105,115,101] then (16,1) else if s=[115,112,97,119,110] then (17,1)
 else if s=[97,116,111,109,105,99,97,108,108,121] then (18,1) else if s=[116,118,97,114] then (21,1) else if s=[114,101,97,100] then (22,1)
 else if s=[119,114,105,116,101] then (23,2) else if s=[111,114,101,108,115,101] then (20,2) else (0,0)
def Xs(e pt:PM Nd):Nat→Nd→PM Nd
 | 0,nd=>fun p=>some (nd,p)
 | n+1,nd=>fun p=>(ZV T e pt p).bind fun r=>Xs e pt n (nd.addKid r.1) r.2
def YM(e pt:PM Nd):Nat→Bool→Nd→PM Nd
 | 0,_,_=>fun _=>none
 | n+1,bare,nd=>fun p=>(zE T p).bind fun t=>if qx t then
   (if bare then (ZE T nd.kids.length 4 p).bind fun p1=>(ZV T e pt p1).bind fun r=>YM e pt n bare (nd.addKid r.1) r.2
   else (ZV T e pt p).bind fun r=>YM e pt n bare (zr 7 nd.pos [] [nd,r.1]) r.2) else some (nd,p)
def JD(e pt:PM Nd):PM Nd:=fun p=>(zE T p).bind fun t =>
 if t.kind=6∧0<(qT t.text).1 then (ZG T p).bind fun r=>Xs T e pt (qT t.text).2.toNat (zr (qT t.text).1 t.pos [] []) r.2
 else (ZV T e pt p).bind fun r=>YM T e pt (T.length+2) (t.kind==4) r.1 r.2
def J0(part:PM Nd)(signs:List Tx):Nat→Tk→Nd→PM Nd
 | 0,_,_=>fun _=>none
 | n+1,t,nd=>fun p=>if t.kind=5∧t.text∈signs then (ZG T p).bind fun r=>(part r.2).bind fun q=>(zE T q.2).bind fun t'=>J0 part signs n t' (zr 13 nd.pos t.text [nd,q.1]) q.2 else some (nd,p)
def J1(part:PM Nd)(signs:List Tx):PM Nd:=fun p=>(part p).bind fun r=>(zE T r.2).bind fun t=>J0 T part signs (T.length+2) t r.1 r.2
def VJ:List Tx:=[[42],[47],[37]]
def signsP:List Tx:=[[43],[45],[94]]
def wR(e pt:PM Nd):PM Nd:=J1 T (JD T e pt) VJ
def E4(e pt:PM Nd):PM Nd:=J1 T (wR T e pt) signsP
def W7(e pt:PM Nd):PM Nd:=fun p=>(E4 T e pt p).bind fun r=>(zE T r.2).bind fun t =>
 if isT t [61]∨isT t [60] then (ZG T r.2).bind fun q=>(E4 T e pt q.2).map fun u=>(zr 13 r.1.pos t.text [r.1,u.1],u.2) else some (r.1,r.2)
def Xh(e:PM Nd):PM (Tx×Bool×Nd):=fun p=>(Xc T [114,101,99] p).bind fun r=>(Qn T 3 r.2).bind fun q=>(qp T [61] q.2).bind fun p1 =>
 (if r.1∧p1.deep<40 then (Ye T [102,117,110] p1).bind fun b=>if b then some p1 else Zh T 14 p1 else some p1).bind fun p2 =>
 (Ys T e p2).map fun u=>((q.1.text,r.1,u.1),u.2)
def Bg(e:PM Nd):PM Nd:=fun p=>(ZG T p).bind fun r=>(Xh T e r.2).bind fun q=>(qp T [105,110] q.2).bind fun p1=>(Ys T e p1).map fun u =>
 (zr (if q.1.2.1 then 9 else 8) r.1.pos q.1.1 [q.1.2.2,u.1],u.2)
def Ll(e:PM Nd):PM Nd:=fun p=>(ZG T p).bind fun r=>(Qn T 3 r.2).bind fun q=>(qp T [45,62] q.2).bind fun p1=>(Ys T e p1).map fun u=>(zr 6 r.1.pos q.1.text [u.1],u.2)
def JV(e:PM Nd):PM Nd:=fun p=>(ZG T p).bind fun r=>(Ys T e r.2).bind fun c=>(qp T [116,104,101,110] c.2).bind fun p1=>(Ys T e p1).bind fun a=>(qp T [101,108,115,101] a.2).bind fun p2 =>
 (Ys T e p2).map fun b=>(zr 10 r.1.pos [] [c.1,a.1,b.1],b.2)
def J9(e pt:PM Nd):PM Nd:=fun p=>(zE T p).bind fun t =>
 if t.kind=6∧t.text=[108,101,116] then Bg T e p
 else if t.kind=6∧t.text=[102,117,110] then Ll T e p
 else if t.kind=6∧t.text=[105,102] then JV T e p
 else (W7 T e pt p).bind fun r=>(if r.2.flat then some (false,r.2) else Xc T [59] r.2).bind fun q =>
  if q.1 then (Ys T e q.2).map fun u=>(zr 14 r.1.pos [] [r.1,u.1],u.2) else some (r.1,q.2)
def Z7:Nat→PM Nd
 | 0=>fun _=>none
 | n+1=>J9 T (Z7 n) (Qj T (n+1))
def Jy(e ty:PM Nd):PM Nd:=fun p=>(Ye T [116,121,112,101] p).bind fun b =>
 (if b then Q9 T ty p else (ZG T p).bind fun r=>(Xh T e { r.2 with flat:=true }).map fun q=>(zr (if q.1.2.1 then 29 else 28) r.1.pos q.1.1 [q.1.2.2],{ q.2 with flat:=false })).bind fun u =>
 (qp T [59] u.2).map fun p1=>(u.1,p1)
def Y'(e ty:PM Nd):Nat→Nd→PM Nd
 | 0,_=>fun _=>none
 | n+1,nd=>fun p=>(Ye T [116,121,112,101] p).bind fun a=>(if a then some true else Ye T [108,101,116] p).bind fun b =>
  if b then (ZE T nd.kids.length 60 p).bind fun p1=>(Jy T e ty p1).bind fun r=>Y' e ty n (nd.addKid r.1) r.2 else some (nd,p)
def KE(e ty:PM Nd):PM Nd:=fun p=>(zE T p).bind fun t=>(Y' T e ty (T.length+2) (zr 30 t.pos [] []) p).bind fun r=>(qp T [100,111] r.2).bind fun p1 =>
 (Ys T e p1).bind fun u=>(zE T u.2).bind fun t'=>(if t'.kind≠0 then Zh T 14 u.2 else some u.2).map fun p2=>(r.1.addKid u.1,p2)
def Jm:Option (Nd×Int×Int):=(KE T (Z7 T 42) (BC T 42) ⟨0,0,false,0,0⟩).map fun r=>if r.2.e=0 then (r.1,0,0) else (VQ,r.2.bad,r.2.e)
end
end Go.AL
namespace Go.AL
def qY(c:UInt8):Bool:=decide (97≤c)&&decide (c≤122)
def qL(c:UInt8):Bool:=decide (65≤c)&&decide (c≤90)
def zV(c:UInt8):Bool:=decide (48≤c)&&decide (c≤57)
def zH(c:UInt8):Bool:=qY c || qL c || zV c || c==95
def YB(c:UInt8):Bool:=decide (32≤c)&&decide (c≤126)&&c != 34&&c != 92
def qi:Bool→Tx→Nat
 | _,[]=>0
 | true,c::r=>if c=10 then qi false r+1 else qi true r+1
 | false,c::r=>if c=32∨c=9∨c=10 then qi false r+1 else if c=35 then qi true r+1 else 0
def zR(p:UInt8→Bool):Tx→Nat
 | []=>0
 | c::r=>if p c then zR p r+1 else 0
def ZS(d:Tx):Nat:=d.foldl (fun v c=>10*v+(c.toNat-48)) 0
def keysL:List Tx:=[[108,101,116],[114,101,99],[105,110],[102,117,110],[105,102],[116,104,101,110],[101,108,115,101],[109,97,116,99,104],[119,105,116,104],[101,110,100],[116,114,121],[112,114,105,110,116],[114,97,105,115,101],[115,112,97,119,110],[97,116,111,109,105,99,97,108,108,121],[114,101,116,114,121],[111,114,101,108,115,101],[116,118,97,114],[114,101,97,100],[119,114,105,116,101],[116,121,112,101],[111,102],[100,111]]
def signsL:Tx:=[61,60,43,45,42,47,37,94,59,124,40,41,44,95]
def hexL:Tx:=[48,49,50,51,52,53,54,55,56,57,97,98,99,100,101,102]
def YK(c:UInt8):Option Nat:=hexL.findIdx? (· == c)
def Jl:Tx→Except Int (UInt8×Nat)
 | [] =>.error 11
 | c::r=>if c=110 then .ok (10,1) else if c=34 then .ok (34,1) else if c=92 then .ok (92,1) else if c≠120 then .error 10 else
  match r with
  | [] =>.error 11
  | a::r=>match YK a with
   | none =>.error 10
   | some x=>match r with
    | [] =>.error 11
    | b::_=>match YK b with
     | none =>.error 10
     | some y =>.ok (UInt8.ofNat (16*x+y),3)
def XR:Nat→Tx→Tx→Nat→Except Int (Tx×Nat)
 | 0,_,_,_ =>.error 11
 | _+1,[],_,_ =>.error 11
 | n+1,c::r,b,k=>if c=10 then .error 11 else if c=34 then (if 60<b.length then .error 12 else .ok (b,k+1))
  else if c=92 then (match Jl r with
   | .error e =>.error e
   | .ok (x,m)=>XR n (r.drop m) (b++[x]) (k+1+m))
  else if YB c then XR n r (b++[c]) (k+1) else .error 10
def VN(s:Tx):Except Int (Tx×Nat):=match s with
 | [] =>.error 14
 | c::r=>if c=34 then XR (r.length+1) r [] 1 else .error 14
def XE(s:Tx)(pos:Int):Except Int (Tk×Nat):=match s with
 | [] =>.error 10
 | c::r =>
  if zV c then (if 4611686018427387903<ZS (s.take (zR zV s)) then .error 13 else .ok (⟨1,[],ZS (s.take (zR zV s)),pos⟩,zR zV s))
  else if c=34 then (match VN s with
   | .error e =>.error e
   | .ok (t,n) =>.ok (⟨2,t,0,pos⟩,n))
  else if qY c || qL c then (if 16<zR zH s then .error 12 else .ok (⟨if qL c then 4 else if s.take (zR zH s)∈keysL then 6 else 3,s.take (zR zH s),0,pos⟩,zR zH s))
  else if c∈signsL then (if r.head?=some 62∧c=45 then .ok (⟨5,[45,62],0,pos⟩,2) else .ok (⟨5,[c],0,pos⟩,1))
  else .error 10
def Zk:Nat→Tx→Nat→List Tk→Except (Nat×Int) (List Tk)
 | 0,_,_,_ =>.error (0,0)
 | n+1,s,k,out=>match s.drop (qi false s) with
  | [] =>.ok (out++[⟨0,[],0,((k+qi false s:Nat):Int)⟩])
  | c::r=>match XE (c::r) ((k+qi false s:Nat):Int) with
   | .error e =>.error (k+qi false s,e)
   | .ok (t,m)=>Zk n ((c::r).drop m) (k+qi false s+m) (out++[t])
def YY(s:Tx):Except (Nat×Int) (List Tk):=if 2000<s.length then .error (0,12) else Zk (s.length+1) s 0 []
def qC(s:Tx):Option (Nd×Int×Int):=match YY s with
 | .error (a,e)=>some (VQ,a,e)
 | .ok T=>Jm T
theorem HW(c:UInt8)(l p:Tx):Lib.contains (c::l) p=(p.isPrefixOf (c::l) || Lib.contains l p):=by
 have h:=Lib.index_ge l p;unfold Lib.contains;rw[show Lib.index (c::l) p=if p.isPrefixOf (c::l) then 0 else if Lib.index l p == -1 then -1 else Lib.index l p+1 by rw[Lib.index]];cases hp:p.isPrefixOf (c::l) with
 | true=>simp
 | false =>
  by_cases h1:Lib.index l p = -1
  ·simp[h1]
  ·have h2:(Lib.index l p == -1)=false:=by simp[h1]
   simp only[h2,Yd,if_false,Bool.false_or];rw[decide_eq_decide];omega
theorem wU(c:UInt8)(p:Tx):Lib.contains [] (c::p)=false:=by
 simp[Lib.contains,Lib.index]
theorem Eg(p:Tx):∀ (w r:Tx),(∀ c∈w,c≠32)→Lib.contains (w++r) (32::p)=Lib.contains r (32::p)
 | [],r,_=>rfl
 | c::w,r,h=>by
  rw[xcA,HW,Eg p w r fun x hx=>h x (List.mem_cons_of_mem _ hx)];have:(32::p).isPrefixOf (c::(w++r))=false:=by
   rw[List.isPrefixOf];have:(32==c)=false:=by
    have:=h c List.mem_cons_self;simp;exact fun e=>this e.symm
   rw[this];rfl
  rw[this,Bool.false_or]
theorem wS:∀ (s w r:Tx),(∀ c∈s,c≠32)→(∀ c∈w,c≠32)→(s++[32]).isPrefixOf (w++32::r)=decide (s=w)
 | [],[],r,_,_=>by simp[List.isPrefixOf]
 | [],c::w,r,_,h=>by
  have:(32==c)=false:=by
   have:=h c List.mem_cons_self;simp;exact fun e=>this e.symm
  simp[List.isPrefixOf,this]
 | c::s,[],r,h,_=>by
  have:(c==32)=false:=by
   have:=h c List.mem_cons_self;simp;exact this
  simp[List.isPrefixOf,this]
 | c::s,d::w,r,h,k=>by
  have ih:=wS s w r (fun x hx=>h x (List.mem_cons_of_mem _ hx)) (fun x hx=>k x (List.mem_cons_of_mem _ hx));rw[xcA,xcA,List.isPrefixOf,ih];by_cases e:c=d
  ·subst e;simp
  ·simp[e]
def B0(ws:List Tx):Tx:=ws.flatMap fun w=>w++[32]
theorem Fy(s:Tx)(hs:∀ c∈s,c≠32):∀ ws:List Tx,(∀ w∈ws,∀ c∈w,c≠32)→Lib.contains (32::B0 ws) (32::(s++[32]))=decide (s∈ws)
 | [],_=>by
  rw[HW];simp only[B0,List.flatMap_nil,wU,Bool.or_false,List.not_mem_nil,decide_false];cases s with
  | nil=>rfl
  | cons c s=>rfl
 | w::ws,h=>by
  have ih:=Fy s hs ws fun x hx=>h x (List.mem_cons_of_mem _ hx);have e:B0 (w::ws)=w++(32::B0 ws):=by simp[B0]
  rw[HW,e,Eg _ _ _ (h w List.mem_cons_self),ih,List.isPrefixOf,wS s w _ hs (h w List.mem_cons_self)];by_cases q:s=w
  ·subst q;simp
  ·simp[q]
def Gr:Tx:=[32,108,101,116,32,114,101,99,32,105,110,32,102,117,110,32,105,102,32,116,104,101,110,32,101,108,115,101,32,109,97,116,99,104,32,119,105,116,104,32,101,110,100,32,116,114,121,32,112,114,105,110,116,32,114,97,105,115,101,32,115,112,97,119,110,32,97,116,111,109,105,99,97,108,108,121,32,114,101,116,114,121,32,111,114,101,108,115,101,32,116,118,97,114,32,114,101,97,100,32,119,114,105,116,101,32,116,121,112,101,32,111,102,32,100,111,32]
theorem tQ(s:Tx)(hs:∀ c∈s,c≠32):Lib.contains Gr (32::(s++[32]))=decide (s∈keysL):=by
 have:Gr=32::B0 keysL:=by decide
 rw[this];exact Fy s hs keysL (by decide)
theorem dy(s:Tx)(hs:∀ c∈s,c≠32):Lib.contains s [32]=false:=by
 have:=Eg [] s [] hs;rw[xaN] at this;rw[this];exact wU _ _
theorem mb{l:Tx}:∀ c∈l.take (zR zH l),zH c=true:=by
 induction l with
 | nil=>intro c hc;cases hc
 | cons d l ih =>
  intro c hc;unfold zR at hc;split at hc
  ·rename_i h;rw[List.take_succ_cons] at hc;rcases List.mem_cons.1 hc with rfl | hc
   ·exact h
   ·exact ih c hc
  ·cases hc
theorem wH{c:UInt8}(h:zH c=true):c≠32:=by rintro rfl;revert h;decide
theorem kq(a:Tx)(c:UInt8):ZS (a++[c])=10*ZS a+(c.toNat-48):=by simp[ZS]
theorem wi{d:Tx}{j:Nat}(h:j<d.length):ZS (d.take (j+1))=10*ZS (d.take j)+(d[j].toNat-48):=by
 rw[List.take_succ_eq_append_getElem h,kq]
theorem nr:∀ (b a:Tx),ZS a≤ZS (a++b)
 | [],a=>by simp
 | c::b,a=>by
  have h:=nr b (a++[c]);rw[xaA] at h;rw[kq] at h;simp only[xcA,xnA] at h;omega
theorem EG(d:Tx)(j:Nat):ZS (d.take j)≤ZS d:=by
 have:=nr (d.drop j) (d.take j);rwa[List.take_append_drop] at this
theorem GU:∀ l:Tx,ZS (l.dropWhile (· == 48))=ZS l
 | []=>rfl
 | c::r=>by
  rw[List.dropWhile_cons];split
  ·rename_i h;rw[GU r];have:c=48:=by simpa using h
   subst this;simp[ZS]
  ·rfl
def Vy(l:Tx):Tx:=if l.dropWhile (· == 48)=[] then [48] else l.dropWhile (· == 48)
theorem nB(l:Tx):ZS (Vy l)=ZS l:=by
 unfold Vy;split
 ·rename_i h;rw[←GU l,h];rfl
 ·exact GU l
theorem Fu:∀ l:Tx,l.dropWhile (· == 48)≠[]→(l.dropWhile (· == 48)).headD 0≠48
 | [],h=>absurd rfl h
 | c::r,h=>by
  rw[List.dropWhile_cons] at h ⊢;split
  ·rename_i hc;rw[if_pos hc] at h;exact Fu r h
  ·rename_i hc;simpa using hc
theorem ot(l:Tx)(hl:∀ c∈l,zV c=true):Vy l≠[]∧(∀ c∈Vy l,zV c=true)∧((Vy l).headD 0≠48∨(Vy l).length=1):=by
 unfold Vy;split
 ·exact⟨by simp,fun c hc=>by simp at hc;subst hc;decide,.inr rfl⟩
 ·rename_i h;exact⟨h,fun c hc=>hl c ((List.dropWhile_sublist _).mem hc),.inl (Fu l h)⟩
def K6(d:Tx):Int×Int:=if 4611686018427387903<ZS d then (0,13) else (ZS d,0)
theorem nY(v k:Nat)(hk:k≤9)(hv:v≤4611686018427387904):(-(v:Int)<Int.tdiv (-4611686018427387904+(k:Int)) 10)↔4611686018427387904<10*v+k:=by
 have h:(-4611686018427387904+(k:Int)) = -((4611686018427387904-k:Nat):Int):=by omega
 rw[h,Int.neg_tdiv,show Int.tdiv ((4611686018427387904-k:Nat):Int) 10=(((4611686018427387904-k) / 10:Nat):Int) by rfl];omega
end Go.AL
namespace Go.AL
section
variable (T:List Tk)
def Zv:PM Tk:=fun p=>(zE T p).map fun t=>if t.kind=0 then (gQ,p) else (t,{ p with pos:=p.pos+1 })
def J3(k:Int):PM Tx:=fun p=>(Qn T k p).map fun r=>(r.1.text,r.2)
def bU(p:PS):Option Int:=(zE T p).map (·.pos)
def YT(e:PM Nd):PM Nd:=fun p=>if 1000<p.deep then none else
 (if p.deep=40 then Zh T 15 p else some p).bind fun p1 =>
 if p1.e≠0 then some (VQ,p1) else (e { p1 with deep:=p1.deep+1 }).bind fun r=>if r.2.deep=0∨1000<r.2.deep then none else some (r.1,{ r.2 with deep:=r.2.deep-1 })
def Y8(k:Int):PM Nd:=fun p=>(Zv T p).map fun r=>(.mk k r.1.text r.1.num r.1.pos [] [],r.2)
def U5(c:Prop)[Decidable c](p:PS):Option PS:=if c then Zh T 16 p else some p
def jq(ty:PM Nd):Nat→Nd→PM Nd
 | 0,_=>fun _=>none
 | n+1,nd=>fun p=>if p.e=0 then (zE T p).bind fun t =>
  if t.kind=3 then (Zv T p).bind fun r=>jq ty n (nd.addKid (zr 27 r.1.pos r.1.text [])) r.2
  else if isT t [40] then (Zv T p).bind fun r=>(ty r.2).bind fun q=>(qp T [41] q.2).bind fun p1=>jq ty n (nd.addKid q.1) p1 else some (nd,p)
  else some (nd,p)
def Is(ty:PM Nd):PM Nd:=fun p=>(bU T p).bind fun a=>(J3 T 3 p).bind fun r=>jq T ty (T.length+2) (zr 27 a r.1 []) r.2
def Mm:Nat→PM Nd
 | 0=>fun _=>none
 | n+1=>Is T (YT T (Mm n))
def BF(ty:PM Nd):Nat→Bool→Nd→PM Nd
 | 0,_,_=>fun _=>none
 | n+1,more,nd=>fun p=>if more∧p.e=0 then (Zv T p).bind fun r=>(U5 T (nd.kids.length=4) r.2).bind fun p1=>(ty p1).bind fun q=>(Ye T [44] q.2).bind fun b=>BF ty n b (nd.addKid q.1) q.2 else some (nd,p)
def wX(ty:PM Nd):PM Nd:=fun p=>(bU T p).bind fun a=>(J3 T 4 p).bind fun r=>(Ye T [111,102] r.2).bind fun b=>BF T ty (T.length+2) b (zr 26 a r.1 []) r.2
def KX:Nat→Nd→PM Nd
 | 0,_=>fun _=>none
 | n+1,nd=>fun p=>(zE T p).bind fun t=>if t.kind=3 then (if nd.names.length=4 then (Zh T 16 p).map fun p1=>(nd,p1) else (Zv T p).bind fun r=>KX n (nd.addName r.1.text) r.2) else some (nd,p)
def H0(ty:PM Nd):Nat→Bool→Nd→PM Nd
 | 0,_,_=>fun _=>none
 | n+1,more,nd=>fun p=>if more∧p.e=0 then (U5 T (nd.kids.length=20) p).bind fun p1=>(wX T ty p1).bind fun r=>(Xc T [124] r.2).bind fun q=>H0 ty n q.1 (nd.addKid r.1) q.2 else some (nd,p)
def Uh(pt:PM Nd):PM Nd:=fun p=>(zE T p).bind fun t =>
 if t.kind=1 then Y8 T 1 p else if t.kind=3 then Y8 T 4 p else if t.kind=4 then Y8 T 5 p
 else if isT t [95] then (Zv T p).map fun r=>(zr 24 r.1.pos [] [],r.2)
 else if isT t [40] then (Zv T p).bind fun r=>(pt r.2).bind fun q=>(qp T [41] q.2).map fun p1=>(q.1,p1)
 else (Zh T 14 p).map fun p1=>(VQ,p1)
def EK(pt:PM Nd):Nat→Bool→Nd→PM Nd
 | 0,_,_=>fun _=>none
 | n+1,con,nd=>fun p=>if con then (Vx T p).bind fun b=>if b then (if nd.kids.length=4 then (Zh T 16 p).map fun p1=>(nd,p1) else (Uh T pt p).bind fun r=>EK pt n con (nd.addKid r.1) r.2) else some (nd,p) else some (nd,p)
def pK(pt:PM Nd):PM Nd:=fun p=>(zE T p).bind fun t=>(Uh T pt p).bind fun r=>EK T pt (T.length+2) (t.kind==4) r.1 r.2
def ow:Nat→PM Nd
 | 0=>fun _=>none
 | n+1=>pK T (YT T (ow n))
def QY(e:PM Nd):PM Nd:=fun p=>(e { p with flat:=false }).map fun r=>(r.1,{ r.2 with flat:=p.flat })
def KY(e pt:PM Nd):Nat→Bool→Nd→PM Nd
 | 0,_,_=>fun _=>none
 | n+1,more,nd=>fun p=>if more then (U5 T (nd.kids.length=41) p).bind fun p1=>(qp T [124] p1).bind fun p2=>(pt p2).bind fun r=>(qp T [45,62] r.2).bind fun p3=>(QY e p3).bind fun q=>(Ye T [124] q.2).bind fun b =>
   KY e pt n b ((nd.addKid r.1).addKid q.1) q.2
  else some (nd,p)
def cy(e:PM Nd)(a:Int)(x:Nd):PM Nd:=fun p=>(J3 T 3 p).bind fun u=>(qp T [45,62] u.2).bind fun p2=>(QY e p2).bind fun v=>(qp T [101,110,100] v.2).map fun p3=>(zr 12 a u.1 [x,v.1],p3)
def GF(e pt:PM Nd)(a:Int)(x:Nd):PM Nd:=fun p=>(KY T e pt (T.length+2) true (zr 11 a [] [x]) p).bind fun u=>(qp T [101,110,100] u.2).map fun p2=>(u.1,p2)
def Je(e pt:PM Nd):PM Nd:=fun p=>(zE T p).bind fun t =>
 if t.kind=1 then Y8 T 1 p else if t.kind=2 then Y8 T 2 p else if t.kind=3 then Y8 T 4 p else if t.kind=4 then Y8 T 5 p
 else if isT t [114,101,116,114,121] then (Zv T p).map fun r=>(zr 19 t.pos [] [],r.2)
 else if isT t [40] then (Zv T p).bind fun r=>(Xc T [41] r.2).bind fun q =>
  if q.1 then some (zr 3 t.pos [] [],q.2) else (QY e q.2).bind fun u=>(qp T [41] u.2).map fun p1=>(u.1,p1)
 else if isT t [116,114,121] then (Zv T p).bind fun r=>(QY e r.2).bind fun q=>(qp T [119,105,116,104] q.2).bind fun p1=>cy T e t.pos q.1 p1
 else if isT t [109,97,116,99,104] then (Zv T p).bind fun r=>(QY e r.2).bind fun q=>(qp T [119,105,116,104] q.2).bind fun p1=>GF T e pt t.pos q.1 p1
 else (Zh T 14 p).map fun p1=>(VQ,p1)
def YW(t:Tk):Int×Int:=if t.kind=5∨t.kind=6 then qT t.text else (0,0)
def Kr(e pt:PM Nd):Nat→Bool→Nd→PM Nd
 | 0,_,_=>fun _=>none
 | n+1,con,nd=>fun p=>(zE T p).bind fun t=>if qx t then
   (if con then (if nd.kids.length=4 then (Zh T 16 p).map fun p1=>(nd,p1) else (Je T e pt p).bind fun r=>Kr e pt n con (nd.addKid r.1) r.2)
   else (Je T e pt p).bind fun r=>Kr e pt n con (zr 7 nd.pos [] [nd,r.1]) r.2) else some (nd,p)
def wm(e pt:PM Nd):PM Nd:=fun p=>(zE T p).bind fun t =>
 if 0<(YW t).1 then (Zv T p).bind fun r=>(Je T e pt r.2).bind fun q=>if (YW t).2=2 then (Je T e pt q.2).map fun u=>(zr (YW t).1 r.1.pos [] [q.1,u.1],u.2) else some (zr (YW t).1 r.1.pos [] [q.1],q.2)
 else (Je T e pt p).bind fun r=>Kr T e pt (T.length+2) (t.kind==4) r.1 r.2
def K4(t:Tk)(a b c:Tx):Tx:=if isT t a then a else if isT t b then b else if isT t c then c else []
def Wz(part:PM Nd)(a b c:Tx):Nat→Nd→PM Nd
 | 0,_=>fun _=>none
 | n+1,nd=>fun p=>(zE T p).bind fun t=>if K4 t a b c≠[] then (Zv T p).bind fun r=>(part r.2).bind fun q=>Wz part a b c n (zr 13 nd.pos (K4 t a b c) [nd,q.1]) q.2 else some (nd,p)
def EU(part:PM Nd)(a b c:Tx):PM Nd:=fun p=>(part p).bind fun r=>Wz T part a b c (T.length+2) r.1 r.2
def I8(e pt:PM Nd):PM Nd:=EU T (wm T e pt) [42] [47] [37]
def oa(e pt:PM Nd):PM Nd:=EU T (I8 T e pt) [43] [45] [94]
def GL(e pt:PM Nd):PM Nd:=fun p=>(oa T e pt p).bind fun r=>(zE T r.2).bind fun t=>if K4 t [61] [60] [61]≠[] then (Zv T r.2).bind fun q=>(oa T e pt q.2).map fun u=>(zr 13 r.1.pos (K4 t [61] [60] [61]) [r.1,u.1],u.2) else some (r.1,r.2)
def VG(e:PM Nd):PM (Tx×Bool×Nd):=fun p=>(Xc T [114,101,99] p).bind fun r=>(J3 T 3 r.2).bind fun q=>(qp T [61] q.2).bind fun p1=>(Ye T [102,117,110] p1).bind fun f =>
 (if r.1∧¬ f∧p1.deep<40 then Zh T 14 p1 else some p1).bind fun p2=>(e p2).map fun u=>((q.1,r.1,u.1),u.2)
def D3(e pt:PM Nd):PM Nd:=fun p=>(zE T p).bind fun t =>
 if isT t [108,101,116] then (Zv T p).bind fun r=>(VG T e r.2).bind fun q=>(qp T [105,110] q.2).bind fun p1=>(e p1).map fun u=>(zr (if q.1.2.1 then 9 else 8) t.pos q.1.1 [q.1.2.2,u.1],u.2)
 else if isT t [102,117,110] then (Zv T p).bind fun r=>(J3 T 3 r.2).bind fun q=>(qp T [45,62] q.2).bind fun p1=>(e p1).map fun u=>(zr 6 t.pos q.1 [u.1],u.2)
 else if isT t [105,102] then (Zv T p).bind fun r=>(e r.2).bind fun c=>(qp T [116,104,101,110] c.2).bind fun p1=>(e p1).bind fun a=>(qp T [101,108,115,101] a.2).bind fun p2=>(e p2).map fun b=>(zr 10 t.pos [] [c.1,a.1,b.1],b.2)
 else (GL T e pt p).bind fun r=>(Ye T [59] r.2).bind fun b=>if b∧¬ r.2.flat then (Zv T r.2).bind fun q=>(e q.2).map fun u=>(zr 14 r.1.pos [] [r.1,u.1],u.2) else some (r.1,r.2)
def oz:Nat→PM Nd
 | 0=>fun _=>none
 | n+1=>D3 T (YT T (oz n)) (YT T (ow T (n+1)))
def u6(ty:PM Nd)(a:Int):PM Nd:=fun p=>(J3 T 3 p).bind fun q=>(KX T (T.length+2) (zr 25 a q.1 []) q.2).bind fun u=>(qp T [61] u.2).bind fun p1=>H0 T ty (T.length+2) true u.1 p1
def jE(e ty:PM Nd):PM Nd:=fun p=>(Ye T [116,121,112,101] p).bind fun b=>(Zv T p).bind fun r =>
 (if b then u6 T ty r.1.pos r.2 else (VG T e { r.2 with flat:=true }).map fun q=>(zr (if q.1.2.1 then 29 else 28) r.1.pos q.1.1 [q.1.2.2],{ q.2 with flat:=false })).bind fun u =>
 (qp T [59] u.2).map fun p1=>(u.1,p1)
def H4(e ty:PM Nd):Nat→Nd→PM Nd
 | 0,_=>fun _=>none
 | n+1,nd=>fun p=>(zE T p).bind fun t=>if isT t [116,121,112,101]∨isT t [108,101,116] then (if nd.kids.length=60 then (Zh T 16 p).map fun p1=>(nd,p1) else (jE T e ty p).bind fun r=>H4 e ty n (nd.addKid r.1) r.2) else some (nd,p)
def uJ(e ty:PM Nd):PM Nd:=fun p=>(bU T p).bind fun a=>(H4 T e ty (T.length+2) (zr 30 a [] []) p).bind fun r=>(qp T [100,111] r.2).bind fun p1 =>
 (e p1).bind fun u=>(zE T u.2).bind fun t'=>(if t'.kind≠0 then Zh T 14 u.2 else some u.2).map fun p2=>(r.1.addKid u.1,p2)
def Db:Option (Nd×Int×Int):=(uJ T (YT T (oz T 42)) (YT T (Mm T 42)) ⟨0,0,false,0,0⟩).map fun r=>if r.2.e=0 then (r.1,0,0) else (VQ,r.2.bad,r.2.e)
end
end Go.AL
