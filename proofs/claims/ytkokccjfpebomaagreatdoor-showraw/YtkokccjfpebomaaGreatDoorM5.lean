/- The parser as plain functions: tokens, nodes, the state; each reads on only where the program does. -/
import Derived.Test.YtkokccjfpebomaaGreatDoorA9
import Derived.Lib.IndexMore
set_option linter.all false
namespace Go.AL
abbrev Tx:=List UInt8
abbrev ba (l:Tx):ByteArray:=⟨l.toArray⟩
structure Tk where
 kind:Int
 text:Tx
 num:Int
 pos:Int
 deriving DecidableEq
def F6:Tk:=⟨0,[],0,0⟩
instance:Inhabited Tk:=⟨F6⟩
inductive Nd where
 | mk (kind:Int) (text:Tx) (num:Int) (pos:Int) (names:List Tx) (kids:List Nd)
namespace Nd
def kind:Nd→Int | mk k _ _ _ _ _=>k
def text:Nd→Tx | mk _ t _ _ _ _=>t
def num:Nd→Int | mk _ _ n _ _ _=>n
def pos:Nd→Int | mk _ _ _ a _ _=>a
def names:Nd→List Tx | mk _ _ _ _ l _=>l
def kids:Nd→List Nd | mk _ _ _ _ _ l=>l
def addKid:Nd→Nd→Nd | mk x t n a l k,c=>mk x t n a l (k++[c])
def addKids:Nd→List Nd→Nd | mk x t n a l k,c=>mk x t n a l (k++c)
def addName:Nd→Tx→Nd | mk x t n a l k,c=>mk x t n a (l++[c]) k
end Nd
def Wf:Nd :=.mk 0 [] 0 0 [] []
instance:Inhabited Nd:=⟨Wf⟩
def zw(k a:Int)(t:Tx)(kids:List Nd):Nd :=.mk k t 0 a [] kids
structure PS where
 pos:Nat
 deep:Nat
 flat:Bool
 bad:Int
 e:Int
 deriving DecidableEq
abbrev PM (α:Type):=PS→Option (α×PS)
section
variable (T:List Tk)
def zH(p:PS):Option Tk:=if p.e=0 then T[p.pos]? else some F6
def ZR:PM Tk:=fun p=>(zH T p).map fun t=>(t,if p.e=0∧t.kind≠0 then { p with pos:=p.pos+1 } else p)
def isT(t:Tk)(s:Tx):Bool:=(t.kind==5 || t.kind==6)&&t.text==s
def Yj(s:Tx)(p:PS):Option Bool:=(zH T p).map fun t=>isT t s
def Zq(e:Int)(p:PS):Option PS:=if p.e=0 then (T[p.pos]?).map fun t=>{ p with bad:=t.pos,e:=e } else some p
def Xd(s:Tx):PM Bool:=fun p=>(Yj T s p).bind fun b=>if b then (ZR T p).map fun r=>(true,r.2) else some (false,p)
def qy(s:Tx)(p:PS):Option PS:=(Xd T s p).bind fun r=>if r.1 then some r.2 else Zq T 14 r.2
def Qy(k:Int):PM Tk:=fun p=>(zH T p).bind fun t=>(if t.kind≠k then Zq T 14 p else some p).bind fun p1=>ZR T p1
def ZO(n m:Int)(p:PS):Option PS:=if m≤n then Zq T 16 p else some p
def Yn(e:PM Nd):PM Nd:=fun p =>
 (if 40≤p.deep then Zq T 15 p else some p).bind fun p1 =>
 if p1.e≠0 then some (Wf,p1) else (e { p1 with deep:=p1.deep+1 }).bind fun r=>if r.2.deep=0∨1000<r.2.deep then none else some (r.1,{ r.2 with deep:=r.2.deep-1 })
def Yl(e:PM Nd):PM Nd:=fun p =>
 (qy T [40] p).bind fun p1=>(Yn T e p1).bind fun r=>(qy T [41] r.2).map fun p2=>(r.1,p2)
def Xc(kinds:List (Int×Int)):PM Nd:=fun p =>
 (zH T p).bind fun t=>let k:=((kinds.find? fun q=>q.1==t.kind).map (·.2)).getD 0
  if k=0 then (Zq T 14 p).map fun p1=>(Wf,p1) else (ZR T p).map fun r=>(.mk k t.text t.num t.pos [] [],r.2)
def va(e:PM Nd):Nat→Nd→PM Nd
 | 0,_=>fun _=>none
 | n+1,nd=>fun p=>(zH T p).bind fun t =>
  if t.kind=3 then (ZR T p).bind fun r=>va e n (nd.addKid (zw 27 t.pos t.text [])) r.2
  else (Yj T [40] p).bind fun b=>if b then (Yl T e p).bind fun r=>va e n (nd.addKid r.1) r.2 else some (nd,p)
def bQ(e:PM Nd):PM Nd:=fun p=>(Qy T 3 p).bind fun r=>va T e (T.length+2) (zw 27 r.1.pos r.1.text []) r.2
def F3:Nat→PM Nd
 | 0=>fun _=>none
 | n+1=>bQ T (F3 n)
def U1(e:PM Nd):Nat→Bool→Nd→PM Nd
 | 0,_,_=>fun _=>none
 | n+1,more,nd=>fun p=>if more∧p.e=0 then (ZO T nd.kids.length 4 p).bind fun p1=>(Yn T e p1).bind fun r=>(Xd T [44] r.2).bind fun q=>U1 e n q.1 (nd.addKid r.1) q.2 else some (nd,p)
def E8(e:PM Nd):PM Nd:=fun p=>(Qy T 4 p).bind fun r=>(Xd T [111,102] r.2).bind fun q =>
 if q.1 then U1 T e (T.length+2) true (zw 26 r.1.pos r.1.text []) q.2 else some (zw 26 r.1.pos r.1.text [],q.2)
def Qx:Nat→Nd→PM Nd
 | 0,_=>fun _=>none
 | n+1,nd=>fun p=>(zH T p).bind fun t=>if t.kind=3 then (ZO T nd.names.length 4 p).bind fun p1=>(ZR T p1).bind fun r=>Qx n (nd.addName r.1.text) r.2 else some (nd,p)
def YP(e:PM Nd):Nat→Bool→Nd→PM Nd
 | 0,_,_=>fun _=>none
 | n+1,more,nd=>fun p=>if more∧p.e=0 then (ZO T nd.kids.length 20 p).bind fun p1=>(E8 T e p1).bind fun r=>(Xd T [124] r.2).bind fun q=>YP e n q.1 (nd.addKid r.1) q.2 else some (nd,p)
def QS(e:PM Nd):PM Nd:=fun p=>(ZR T p).bind fun r=>(Qy T 3 r.2).bind fun q=>(Qx T (T.length+2) (zw 25 r.1.pos q.1.text []) q.2).bind fun u =>
 (qy T [61] u.2).bind fun p1=>YP T e (T.length+2) true u.1 p1
def Qo(e:PM Nd):PM Nd:=fun p=>(zH T p).bind fun t=>(Xd T [95] p).bind fun q =>
 if q.1 then some (zw 24 t.pos [] [],q.2) else (Yj T [40] q.2).bind fun b=>if b then Yl T e q.2 else Xc T [(1,1),(3,4),(4,5)] q.2
def VV(p:PS):Option Bool:=(zH T p).map fun t=>isT t [95] || isT t [40] || t.kind==3 || t.kind==1 || t.kind==4
def JO(e:PM Nd):Nat→Bool→Nd→PM Nd
 | 0,_,_=>fun _=>none
 | n+1,con,nd=>fun p=>if con then (VV T p).bind fun b=>if b then (ZO T nd.kids.length 4 p).bind fun p1=>(Qo T e p1).bind fun r=>JO e n con (nd.addKid r.1) r.2 else some (nd,p) else some (nd,p)
def HW(e:PM Nd):PM Nd:=fun p=>(zH T p).bind fun t=>(Qo T e p).bind fun r=>JO T e (T.length+2) (t.kind==4) r.1 r.2
def Qq:Nat→PM Nd
 | 0=>fun _=>none
 | n+1=>HW T (Qq n)
def Q4(e:PM Nd):PM Nd:=fun p=>(Yn T e { p with flat:=false }).map fun r=>(r.1,{ r.2 with flat:=p.flat })
def QR(e pt:PM Nd):Nat→Bool→Nd→PM Nd
 | 0,_,_=>fun _=>none
 | n+1,first,nd=>fun p=>(if first then some true else Yj T [124] p).bind fun b =>
  if b then (ZO T (Int.tdiv nd.kids.length 2) 20 p).bind fun p1=>(qy T [124] p1).bind fun p2=>(Yn T pt p2).bind fun r=>(qy T [45,62] r.2).bind fun p3=>(Q4 T e p3).bind fun q=>QR e pt n false (nd.addKids [r.1,q.1]) q.2
  else some (nd,p)
def Y1(e pt:PM Nd):PM Nd:=fun p=>(ZR T p).bind fun r=>(Q4 T e r.2).bind fun q=>(qy T [119,105,116,104] q.2).bind fun p1=>(QR T e pt (T.length+2) true (zw 11 r.1.pos [] [q.1]) p1).bind fun u =>
 (qy T [101,110,100] u.2).map fun p2=>(u.1,p2)
def Hm(e:PM Nd):PM Nd:=fun p=>(ZR T p).bind fun r=>(Q4 T e r.2).bind fun q=>(qy T [119,105,116,104] q.2).bind fun p1=>(Qy T 3 p1).bind fun u=>(qy T [45,62] u.2).bind fun p2 =>
 (Q4 T e p2).bind fun v=>(qy T [101,110,100] v.2).map fun p3=>(zw 12 r.1.pos u.1.text [q.1,v.1],p3)
def ZL(e pt:PM Nd):PM Nd:=fun p=>(zH T p).bind fun t =>
 if isT t [109,97,116,99,104] then Y1 T e pt p
 else if isT t [116,114,121] then Hm T e p
 else if isT t [114,101,116,114,121] then (ZR T p).map fun r=>(zw 19 t.pos [] [],r.2)
 else if isT t [40] then (ZR T p).bind fun r=>(Xd T [41] r.2).bind fun q =>
  if q.1 then some (zw 3 t.pos [] [],q.2) else (Q4 T e q.2).bind fun u=>(qy T [41] u.2).map fun p1=>(u.1,p1)
 else Xc T [(1,1),(2,2),(3,4),(4,5)] p
def qI(t:Tk):Bool:=t.kind==1 || t.kind==2 || t.kind==3 || t.kind==4 || isT t [40] || isT t [114,101,116,114,121] || isT t [109,97,116,99,104] || isT t [116,114,121]
def qJ(s:Tx):Int×Int :=
 if s=[112,114,105,110,116] then (15,1) else if s=[114,97,105,115,101] then (16,1) else if s=[115,112,97,119,110] then (17,1)
 else if s=[97,116,111,109,105,99,97,108,108,121] then (18,1) else if s=[116,118,97,114] then (21,1) else if s=[114,101,97,100] then (22,1)
 else if s=[119,114,105,116,101] then (23,2) else if s=[111,114,101,108,115,101] then (20,2) else (0,0)
def Xl(e pt:PM Nd):Nat→Nd→PM Nd
 | 0,nd=>fun p=>some (nd,p)
 | n+1,nd=>fun p=>(ZL T e pt p).bind fun r=>Xl e pt n (nd.addKid r.1) r.2
def Yp(e pt:PM Nd):Nat→Bool→Nd→PM Nd
 | 0,_,_=>fun _=>none
 | n+1,bare,nd=>fun p=>(zH T p).bind fun t=>if qI t then
   (if bare then (ZO T nd.kids.length 4 p).bind fun p1=>(ZL T e pt p1).bind fun r=>Yp e pt n bare (nd.addKid r.1) r.2
   else (ZL T e pt p).bind fun r=>Yp e pt n bare (zw 7 nd.pos [] [nd,r.1]) r.2) else some (nd,p)
def Jf(e pt:PM Nd):PM Nd:=fun p=>(zH T p).bind fun t =>
 if t.kind=6∧0<(qJ t.text).1 then (ZR T p).bind fun r=>Xl T e pt (qJ t.text).2.toNat (zw (qJ t.text).1 t.pos [] []) r.2
 else (ZL T e pt p).bind fun r=>Yp T e pt (T.length+2) (t.kind==4) r.1 r.2
def JW(part:PM Nd)(signs:List Tx):Nat→Tk→Nd→PM Nd
 | 0,_,_=>fun _=>none
 | n+1,t,nd=>fun p=>if t.kind=5∧t.text∈signs then (ZR T p).bind fun r=>(part r.2).bind fun q=>(zH T q.2).bind fun t'=>JW part signs n t' (zw 13 nd.pos t.text [nd,q.1]) q.2 else some (nd,p)
def JV(part:PM Nd)(signs:List Tx):PM Nd:=fun p=>(part p).bind fun r=>(zH T r.2).bind fun t=>JW T part signs (T.length+2) t r.1 r.2
def V6:List Tx:=[[42],[47],[37]]
def signsP:List Tx:=[[43],[45],[94]]
def wP(e pt:PM Nd):PM Nd:=JV T (Jf T e pt) V6
def EK(e pt:PM Nd):PM Nd:=JV T (wP T e pt) signsP
def Wn(e pt:PM Nd):PM Nd:=fun p=>(EK T e pt p).bind fun r=>(zH T r.2).bind fun t =>
 if isT t [61]∨isT t [60] then (ZR T r.2).bind fun q=>(EK T e pt q.2).map fun u=>(zw 13 r.1.pos t.text [r.1,u.1],u.2) else some (r.1,r.2)
def Q2(e:PM Nd):PM (Tx×Bool×Nd):=fun p=>(Xd T [114,101,99] p).bind fun r=>(Qy T 3 r.2).bind fun q=>(qy T [61] q.2).bind fun p1 =>
 (if r.1∧p1.deep<40 then (Yj T [102,117,110] p1).bind fun b=>if b then some p1 else Zq T 14 p1 else some p1).bind fun p2 =>
 (Yn T e p2).map fun u=>((q.1.text,r.1,u.1),u.2)
def B9(e:PM Nd):PM Nd:=fun p=>(ZR T p).bind fun r=>(Q2 T e r.2).bind fun q=>(qy T [105,110] q.2).bind fun p1=>(Yn T e p1).map fun u =>
 (zw (if q.1.2.1 then 9 else 8) r.1.pos q.1.1 [q.1.2.2,u.1],u.2)
def Fl(e:PM Nd):PM Nd:=fun p=>(ZR T p).bind fun r=>(Qy T 3 r.2).bind fun q=>(qy T [45,62] q.2).bind fun p1=>(Yn T e p1).map fun u=>(zw 6 r.1.pos q.1.text [u.1],u.2)
def JD(e:PM Nd):PM Nd:=fun p=>(ZR T p).bind fun r=>(Yn T e r.2).bind fun c=>(qy T [116,104,101,110] c.2).bind fun p1=>(Yn T e p1).bind fun a=>(qy T [101,108,115,101] a.2).bind fun p2 =>
 (Yn T e p2).map fun b=>(zw 10 r.1.pos [] [c.1,a.1,b.1],b.2)
def JZ(e pt:PM Nd):PM Nd:=fun p=>(zH T p).bind fun t =>
 if t.kind=6∧t.text=[108,101,116] then B9 T e p
 else if t.kind=6∧t.text=[102,117,110] then Fl T e p
 else if t.kind=6∧t.text=[105,102] then JD T e p
 else (Wn T e pt p).bind fun r=>(if r.2.flat then some (false,r.2) else Xd T [59] r.2).bind fun q =>
  if q.1 then (Yn T e q.2).map fun u=>(zw 14 r.1.pos [] [r.1,u.1],u.2) else some (r.1,q.2)
def Qf:Nat→PM Nd
 | 0=>fun _=>none
 | n+1=>JZ T (Qf n) (Qq T (n+1))
def Y7(e ty:PM Nd):PM Nd:=fun p=>(Yj T [116,121,112,101] p).bind fun b =>
 (if b then QS T ty p else (ZR T p).bind fun r=>(Q2 T e { r.2 with flat:=true }).map fun q=>(zw (if q.1.2.1 then 29 else 28) r.1.pos q.1.1 [q.1.2.2],{ q.2 with flat:=false })).bind fun u =>
 (qy T [59] u.2).map fun p1=>(u.1,p1)
def YV(e ty:PM Nd):Nat→Nd→PM Nd
 | 0,_=>fun _=>none
 | n+1,nd=>fun p=>(Yj T [116,121,112,101] p).bind fun a=>(if a then some true else Yj T [108,101,116] p).bind fun b =>
  if b then (ZO T nd.kids.length 60 p).bind fun p1=>(Y7 T e ty p1).bind fun r=>YV e ty n (nd.addKid r.1) r.2 else some (nd,p)
def KA(e ty:PM Nd):PM Nd:=fun p=>(zH T p).bind fun t=>(YV T e ty (T.length+2) (zw 30 t.pos [] []) p).bind fun r=>(qy T [100,111] r.2).bind fun p1 =>
 (Yn T e p1).bind fun u=>(zH T u.2).bind fun t'=>(if t'.kind≠0 then Zq T 14 u.2 else some u.2).map fun p2=>(r.1.addKid u.1,p2)
def YI:Option (Nd×Int×Int):=(KA T (Qf T 42) (F3 T 42) ⟨0,0,false,0,0⟩).map fun r=>if r.2.e=0 then (r.1,0,0) else (Wf,r.2.bad,r.2.e)
end
end Go.AL
namespace Go.AL
def Zb(c:UInt8):Bool:=decide (97≤c)&&decide (c≤122)
def qS(c:UInt8):Bool:=decide (65≤c)&&decide (c≤90)
def qb(c:UInt8):Bool:=decide (48≤c)&&decide (c≤57)
def zL(c:UInt8):Bool:=Zb c || qS c || qb c || c==95
def YK(c:UInt8):Bool:=decide (32≤c)&&decide (c≤126)&&c != 34&&c != 92
def qo:Bool→Tx→Nat
 | _,[]=>0
 | true,c::r=>if c=10 then qo false r+1 else qo true r+1
 | false,c::r=>if c=32∨c=9∨c=10 then qo false r+1 else if c=35 then qo true r+1 else 0
def zY(p:UInt8→Bool):Tx→Nat
 | []=>0
 | c::r=>if p c then zY p r+1 else 0
def Z5(d:Tx):Nat:=d.foldl (fun v c=>10*v+(c.toNat-48)) 0
def keysL:List Tx:=[[108,101,116],[114,101,99],[105,110],[102,117,110],[105,102],[116,104,101,110],[101,108,115,101],[109,97,116,99,104],[119,105,116,104],[101,110,100],[116,114,121],[112,114,105,110,116],[114,97,105,115,101],[115,112,97,119,110],[97,116,111,109,105,99,97,108,108,121],[114,101,116,114,121],[111,114,101,108,115,101],[116,118,97,114],[114,101,97,100],[119,114,105,116,101],[116,121,112,101],[111,102],[100,111]]
def signsL:Tx:=[61,60,43,45,42,47,37,94,59,124,40,41,44,95]
def hexL:Tx:=[48,49,50,51,52,53,54,55,56,57,97,98,99,100,101,102]
def YY(c:UInt8):Option Nat:=hexL.findIdx? (· == c)
def Js:Tx→Except Int (UInt8×Nat)
 | [] =>.error 11
 | c::r=>if c=110 then .ok (10,1) else if c=34 then .ok (34,1) else if c=92 then .ok (92,1) else if c≠120 then .error 10 else
  match r with
  | [] =>.error 11
  | a::r=>match YY a with
   | none =>.error 10
   | some x=>match r with
    | [] =>.error 11
    | b::_=>match YY b with
     | none =>.error 10
     | some y =>.ok (UInt8.ofNat (16*x+y),3)
def Yb:Nat→Tx→Tx→Nat→Except Int (Tx×Nat)
 | 0,_,_,_ =>.error 11
 | _+1,[],_,_ =>.error 11
 | n+1,c::r,b,k=>if c=10 then .error 11 else if c=34 then (if 60<b.length then .error 12 else .ok (b,k+1))
  else if c=92 then (match Js r with
   | .error e =>.error e
   | .ok (x,m)=>Yb n (r.drop m) (b++[x]) (k+1+m))
  else if YK c then Yb n r (b++[c]) (k+1) else .error 10
def Wc(s:Tx):Except Int (Tx×Nat):=match s with
 | [] =>.error 14
 | c::r=>if c=34 then Yb (r.length+1) r [] 1 else .error 14
def XO(s:Tx)(pos:Int):Except Int (Tk×Nat):=match s with
 | [] =>.error 10
 | c::r =>
  if qb c then (if 4611686018427387903<Z5 (s.take (zY qb s)) then .error 13 else .ok (⟨1,[],Z5 (s.take (zY qb s)),pos⟩,zY qb s))
  else if c=34 then (match Wc s with
   | .error e =>.error e
   | .ok (t,n) =>.ok (⟨2,t,0,pos⟩,n))
  else if Zb c || qS c then (if 16<zY zL s then .error 12 else .ok (⟨if qS c then 4 else if s.take (zY zL s)∈keysL then 6 else 3,s.take (zY zL s),0,pos⟩,zY zL s))
  else if c∈signsL then (if r.head?=some 62∧c=45 then .ok (⟨5,[45,62],0,pos⟩,2) else .ok (⟨5,[c],0,pos⟩,1))
  else .error 10
def Zs:Nat→Tx→Nat→List Tk→Except (Nat×Int) (List Tk)
 | 0,_,_,_ =>.error (0,0)
 | n+1,s,k,out=>match s.drop (qo false s) with
  | [] =>.ok (out++[⟨0,[],0,((k+qo false s:Nat):Int)⟩])
  | c::r=>match XO (c::r) ((k+qo false s:Nat):Int) with
   | .error e =>.error (k+qo false s,e)
   | .ok (t,m)=>Zs n ((c::r).drop m) (k+qo false s+m) (out++[t])
def X8(s:Tx):Except (Nat×Int) (List Tk):=if 2000<s.length then .error (0,12) else Zs (s.length+1) s 0 []
def qp(s:Tx):Option (Nd×Int×Int):=match X8 s with
 | .error (a,e)=>some (Wf,a,e)
 | .ok T=>YI T
theorem EX(c:UInt8)(l p:Tx):Lib.contains (c::l) p=(p.isPrefixOf (c::l) || Lib.contains l p):=by
 have h:=Lib.index_ge l p;unfold Lib.contains;rw[show Lib.index (c::l) p=if p.isPrefixOf (c::l) then 0 else if Lib.index l p == -1 then -1 else Lib.index l p+1 by rw[Lib.index]];cases hp:p.isPrefixOf (c::l) with
 | true=>simp
 | false =>
  by_cases h1:Lib.index l p = -1
  ·simp[h1]
  ·have h2:(Lib.index l p == -1)=false:=by simp[h1]
   simp only[h2,XU,if_false,Bool.false_or];rw[decide_eq_decide];omega
theorem wn(c:UInt8)(p:Tx):Lib.contains [] (c::p)=false:=by
 simp[Lib.contains,Lib.index]
theorem ET(p:Tx):∀ (w r:Tx),(∀ c∈w,c≠32)→Lib.contains (w++r) (32::p)=Lib.contains r (32::p)
 | [],r,_=>rfl
 | c::w,r,h=>by
  rw[xcA,EX,ET p w r fun x hx=>h x (List.mem_cons_of_mem _ hx)];have:(32::p).isPrefixOf (c::(w++r))=false:=by
   rw[List.isPrefixOf];have:(32==c)=false:=by
    have:=h c List.mem_cons_self;simp;exact fun e=>this e.symm
   rw[this];rfl
  rw[this,Bool.false_or]
theorem kz:∀ (s w r:Tx),(∀ c∈s,c≠32)→(∀ c∈w,c≠32)→(s++[32]).isPrefixOf (w++32::r)=decide (s=w)
 | [],[],r,_,_=>by simp[List.isPrefixOf]
 | [],c::w,r,_,h=>by
  have:(32==c)=false:=by
   have:=h c List.mem_cons_self;simp;exact fun e=>this e.symm
  simp[List.isPrefixOf,this]
 | c::s,[],r,h,_=>by
  have:(c==32)=false:=by
   have:=h c List.mem_cons_self;simp;exact this
  simp[List.isPrefixOf,this]
 | c::s,d::w,r,h,k=>by
  have ih:=kz s w r (fun x hx=>h x (List.mem_cons_of_mem _ hx)) (fun x hx=>k x (List.mem_cons_of_mem _ hx));rw[xcA,xcA,List.isPrefixOf,ih];by_cases e:c=d
  ·subst e;simp
  ·simp[e]
def FX(ws:List Tx):Tx:=ws.flatMap fun w=>w++[32]
theorem FK(s:Tx)(hs:∀ c∈s,c≠32):∀ ws:List Tx,(∀ w∈ws,∀ c∈w,c≠32)→Lib.contains (32::FX ws) (32::(s++[32]))=decide (s∈ws)
 | [],_=>by
  rw[EX];simp only[FX,List.flatMap_nil,wn,Bool.or_false,List.not_mem_nil,decide_false];cases s with
  | nil=>rfl
  | cons c s=>rfl
 | w::ws,h=>by
  have ih:=FK s hs ws fun x hx=>h x (List.mem_cons_of_mem _ hx);have e:FX (w::ws)=w++(32::FX ws):=by simp[FX]
  rw[EX,e,ET _ _ _ (h w List.mem_cons_self),ih,List.isPrefixOf,kz s w _ hs (h w List.mem_cons_self)];by_cases q:s=w
  ·subst q;simp
  ·simp[q]
def Bg:Tx:=[32,108,101,116,32,114,101,99,32,105,110,32,102,117,110,32,105,102,32,116,104,101,110,32,101,108,115,101,32,109,97,116,99,104,32,119,105,116,104,32,101,110,100,32,116,114,121,32,112,114,105,110,116,32,114,97,105,115,101,32,115,112,97,119,110,32,97,116,111,109,105,99,97,108,108,121,32,114,101,116,114,121,32,111,114,101,108,115,101,32,116,118,97,114,32,114,101,97,100,32,119,114,105,116,101,32,116,121,112,101,32,111,102,32,100,111,32]
theorem eU(s:Tx)(hs:∀ c∈s,c≠32):Lib.contains Bg (32::(s++[32]))=decide (s∈keysL):=by
 have:Bg=32::FX keysL:=by decide
 rw[this];exact FK s hs keysL (by decide)
theorem tY(s:Tx)(hs:∀ c∈s,c≠32):Lib.contains s [32]=false:=by
 have:=ET [] s [] hs;rw[xaN] at this;rw[this];exact wn _ _
theorem dZ{l:Tx}:∀ c∈l.take (zY zL l),zL c=true:=by
 induction l with
 | nil=>intro c hc;cases hc
 | cons d l ih =>
  intro c hc;unfold zY at hc;split at hc
  ·rename_i h;rw[List.take_succ_cons] at hc;rcases List.mem_cons.1 hc with rfl | hc
   ·exact h
   ·exact ih c hc
  ·cases hc
theorem vD{c:UInt8}(h:zL c=true):c≠32:=by rintro rfl;revert h;decide
theorem kF(a:Tx)(c:UInt8):Z5 (a++[c])=10*Z5 a+(c.toNat-48):=by simp[Z5]
theorem wU{d:Tx}{j:Nat}(h:j<d.length):Z5 (d.take (j+1))=10*Z5 (d.take j)+(d[j].toNat-48):=by
 rw[List.take_succ_eq_append_getElem h,kF]
theorem fe:∀ (b a:Tx),Z5 a≤Z5 (a++b)
 | [],a=>by simp
 | c::b,a=>by
  have h:=fe b (a++[c]);rw[xaA] at h;rw[kF] at h;simp only[xcA,xnA] at h;omega
theorem Dv(d:Tx)(j:Nat):Z5 (d.take j)≤Z5 d:=by
 have:=fe (d.drop j) (d.take j);rwa[List.take_append_drop] at this
theorem Gu:∀ l:Tx,Z5 (l.dropWhile (· == 48))=Z5 l
 | []=>rfl
 | c::r=>by
  rw[List.dropWhile_cons];split
  ·rename_i h;rw[Gu r];have:c=48:=by simpa using h
   subst this;simp[Z5]
  ·rfl
def VR(l:Tx):Tx:=if l.dropWhile (· == 48)=[] then [48] else l.dropWhile (· == 48)
theorem ny(l:Tx):Z5 (VR l)=Z5 l:=by
 unfold VR;split
 ·rename_i h;rw[←Gu l,h];rfl
 ·exact Gu l
theorem Fy:∀ l:Tx,l.dropWhile (· == 48)≠[]→(l.dropWhile (· == 48)).headD 0≠48
 | [],h=>absurd rfl h
 | c::r,h=>by
  rw[List.dropWhile_cons] at h ⊢;split
  ·rename_i hc;rw[if_pos hc] at h;exact Fy r h
  ·rename_i hc;simpa using hc
theorem l9(l:Tx)(hl:∀ c∈l,qb c=true):VR l≠[]∧(∀ c∈VR l,qb c=true)∧((VR l).headD 0≠48∨(VR l).length=1):=by
 unfold VR;split
 ·exact⟨by simp,fun c hc=>by simp at hc;subst hc;decide,.inr rfl⟩
 ·rename_i h;exact⟨h,fun c hc=>hl c ((List.dropWhile_sublist _).mem hc),.inl (Fy l h)⟩
def UK(d:Tx):Int×Int:=if 4611686018427387903<Z5 d then (0,13) else (Z5 d,0)
theorem fR(v k:Nat)(hk:k≤9)(hv:v≤4611686018427387904):(-(v:Int)<Int.tdiv (-4611686018427387904+(k:Int)) 10)↔4611686018427387904<10*v+k:=by
 have h:(-4611686018427387904+(k:Int)) = -((4611686018427387904-k:Nat):Int):=by omega
 rw[h,Int.neg_tdiv,show Int.tdiv ((4611686018427387904-k:Nat):Int) 10=(((4611686018427387904-k) / 10:Nat):Int) by rfl];omega
end Go.AL
namespace Go.AL
section
variable (T:List Tk)
def ZD:PM Tk:=fun p=>(zH T p).map fun t=>if t.kind=0 then (F6,p) else (t,{ p with pos:=p.pos+1 })
def Vw(k:Int):PM Tx:=fun p=>(Qy T k p).map fun r=>(r.1.text,r.2)
def lP(p:PS):Option Int:=(zH T p).map (·.pos)
def Y9(e:PM Nd):PM Nd:=fun p=>if 1000<p.deep then none else
 (if p.deep=40 then Zq T 15 p else some p).bind fun p1 =>
 if p1.e≠0 then some (Wf,p1) else (e { p1 with deep:=p1.deep+1 }).bind fun r=>if r.2.deep=0∨1000<r.2.deep then none else some (r.1,{ r.2 with deep:=r.2.deep-1 })
def Jh(k:Int):PM Nd:=fun p=>(ZD T p).map fun r=>(.mk k r.1.text r.1.num r.1.pos [] [],r.2)
def HZ(c:Prop)[Decidable c](p:PS):Option PS:=if c then Zq T 16 p else some p
def kE(ty:PM Nd):Nat→Nd→PM Nd
 | 0,_=>fun _=>none
 | n+1,nd=>fun p=>if p.e=0 then (zH T p).bind fun t =>
  if t.kind=3 then (ZD T p).bind fun r=>kE ty n (nd.addKid (zw 27 r.1.pos r.1.text [])) r.2
  else if isT t [40] then (ZD T p).bind fun r=>(ty r.2).bind fun q=>(qy T [41] q.2).bind fun p1=>kE ty n (nd.addKid q.1) p1 else some (nd,p)
  else some (nd,p)
def OJ(ty:PM Nd):PM Nd:=fun p=>(lP T p).bind fun a=>(Vw T 3 p).bind fun r=>kE T ty (T.length+2) (zw 27 a r.1 []) r.2
def Pf:Nat→PM Nd
 | 0=>fun _=>none
 | n+1=>OJ T (Y9 T (Pf n))
def FB(ty:PM Nd):Nat→Bool→Nd→PM Nd
 | 0,_,_=>fun _=>none
 | n+1,more,nd=>fun p=>if more∧p.e=0 then (ZD T p).bind fun r=>(HZ T (nd.kids.length=4) r.2).bind fun p1=>(ty p1).bind fun q=>(Yj T [44] q.2).bind fun b=>FB ty n b (nd.addKid q.1) q.2 else some (nd,p)
def uj(ty:PM Nd):PM Nd:=fun p=>(lP T p).bind fun a=>(Vw T 4 p).bind fun r=>(Yj T [111,102] r.2).bind fun b=>FB T ty (T.length+2) b (zw 26 a r.1 []) r.2
def Uq:Nat→Nd→PM Nd
 | 0,_=>fun _=>none
 | n+1,nd=>fun p=>(zH T p).bind fun t=>if t.kind=3 then (if nd.names.length=4 then (Zq T 16 p).map fun p1=>(nd,p1) else (ZD T p).bind fun r=>Uq n (nd.addName r.1.text) r.2) else some (nd,p)
def EE(ty:PM Nd):Nat→Bool→Nd→PM Nd
 | 0,_,_=>fun _=>none
 | n+1,more,nd=>fun p=>if more∧p.e=0 then (HZ T (nd.kids.length=20) p).bind fun p1=>(uj T ty p1).bind fun r=>(Xd T [124] r.2).bind fun q=>EE ty n q.1 (nd.addKid r.1) q.2 else some (nd,p)
def He(pt:PM Nd):PM Nd:=fun p=>(zH T p).bind fun t =>
 if t.kind=1 then Jh T 1 p else if t.kind=3 then Jh T 4 p else if t.kind=4 then Jh T 5 p
 else if isT t [95] then (ZD T p).map fun r=>(zw 24 r.1.pos [] [],r.2)
 else if isT t [40] then (ZD T p).bind fun r=>(pt r.2).bind fun q=>(qy T [41] q.2).map fun p1=>(q.1,p1)
 else (Zq T 14 p).map fun p1=>(Wf,p1)
def DI(pt:PM Nd):Nat→Bool→Nd→PM Nd
 | 0,_,_=>fun _=>none
 | n+1,con,nd=>fun p=>if con then (VV T p).bind fun b=>if b then (if nd.kids.length=4 then (Zq T 16 p).map fun p1=>(nd,p1) else (He T pt p).bind fun r=>DI pt n con (nd.addKid r.1) r.2) else some (nd,p) else some (nd,p)
def ff(pt:PM Nd):PM Nd:=fun p=>(zH T p).bind fun t=>(He T pt p).bind fun r=>DI T pt (T.length+2) (t.kind==4) r.1 r.2
def lU:Nat→PM Nd
 | 0=>fun _=>none
 | n+1=>ff T (Y9 T (lU n))
def Xm(e:PM Nd):PM Nd:=fun p=>(e { p with flat:=false }).map fun r=>(r.1,{ r.2 with flat:=p.flat })
def Ut(e pt:PM Nd):Nat→Bool→Nd→PM Nd
 | 0,_,_=>fun _=>none
 | n+1,more,nd=>fun p=>if more then (HZ T (nd.kids.length=41) p).bind fun p1=>(qy T [124] p1).bind fun p2=>(pt p2).bind fun r=>(qy T [45,62] r.2).bind fun p3=>(Xm e p3).bind fun q=>(Yj T [124] q.2).bind fun b =>
   Ut e pt n b ((nd.addKid r.1).addKid q.1) q.2
  else some (nd,p)
def dE(e:PM Nd)(a:Int)(x:Nd):PM Nd:=fun p=>(Vw T 3 p).bind fun u=>(qy T [45,62] u.2).bind fun p2=>(Xm e p2).bind fun v=>(qy T [101,110,100] v.2).map fun p3=>(zw 12 a u.1 [x,v.1],p3)
def BV(e pt:PM Nd)(a:Int)(x:Nd):PM Nd:=fun p=>(Ut T e pt (T.length+2) true (zw 11 a [] [x]) p).bind fun u=>(qy T [101,110,100] u.2).map fun p2=>(u.1,p2)
def Ji(e pt:PM Nd):PM Nd:=fun p=>(zH T p).bind fun t =>
 if t.kind=1 then Jh T 1 p else if t.kind=2 then Jh T 2 p else if t.kind=3 then Jh T 4 p else if t.kind=4 then Jh T 5 p
 else if isT t [114,101,116,114,121] then (ZD T p).map fun r=>(zw 19 t.pos [] [],r.2)
 else if isT t [40] then (ZD T p).bind fun r=>(Xd T [41] r.2).bind fun q =>
  if q.1 then some (zw 3 t.pos [] [],q.2) else (Xm e q.2).bind fun u=>(qy T [41] u.2).map fun p1=>(u.1,p1)
 else if isT t [116,114,121] then (ZD T p).bind fun r=>(Xm e r.2).bind fun q=>(qy T [119,105,116,104] q.2).bind fun p1=>dE T e t.pos q.1 p1
 else if isT t [109,97,116,99,104] then (ZD T p).bind fun r=>(Xm e r.2).bind fun q=>(qy T [119,105,116,104] q.2).bind fun p1=>BV T e pt t.pos q.1 p1
 else (Zq T 14 p).map fun p1=>(Wf,p1)
def Y6(t:Tk):Int×Int:=if t.kind=5∨t.kind=6 then qJ t.text else (0,0)
def K8(e pt:PM Nd):Nat→Bool→Nd→PM Nd
 | 0,_,_=>fun _=>none
 | n+1,con,nd=>fun p=>(zH T p).bind fun t=>if qI t then
   (if con then (if nd.kids.length=4 then (Zq T 16 p).map fun p1=>(nd,p1) else (Ji T e pt p).bind fun r=>K8 e pt n con (nd.addKid r.1) r.2)
   else (Ji T e pt p).bind fun r=>K8 e pt n con (zw 7 nd.pos [] [nd,r.1]) r.2) else some (nd,p)
def vI(e pt:PM Nd):PM Nd:=fun p=>(zH T p).bind fun t =>
 if 0<(Y6 t).1 then (ZD T p).bind fun r=>(Ji T e pt r.2).bind fun q=>if (Y6 t).2=2 then (Ji T e pt q.2).map fun u=>(zw (Y6 t).1 r.1.pos [] [q.1,u.1],u.2) else some (zw (Y6 t).1 r.1.pos [] [q.1],q.2)
 else (Ji T e pt p).bind fun r=>K8 T e pt (T.length+2) (t.kind==4) r.1 r.2
def UF(t:Tk)(a b c:Tx):Tx:=if isT t a then a else if isT t b then b else if isT t c then c else []
def W4(part:PM Nd)(a b c:Tx):Nat→Nd→PM Nd
 | 0,_=>fun _=>none
 | n+1,nd=>fun p=>(zH T p).bind fun t=>if UF t a b c≠[] then (ZD T p).bind fun r=>(part r.2).bind fun q=>W4 part a b c n (zw 13 nd.pos (UF t a b c) [nd,q.1]) q.2 else some (nd,p)
def Dk(part:PM Nd)(a b c:Tx):PM Nd:=fun p=>(part p).bind fun r=>W4 T part a b c (T.length+2) r.1 r.2
def Ni(e pt:PM Nd):PM Nd:=Dk T (vI T e pt) [42] [47] [37]
def lN(e pt:PM Nd):PM Nd:=Dk T (Ni T e pt) [43] [45] [94]
def GV(e pt:PM Nd):PM Nd:=fun p=>(lN T e pt p).bind fun r=>(zH T r.2).bind fun t=>if UF t [61] [60] [61]≠[] then (ZD T r.2).bind fun q=>(lN T e pt q.2).map fun u=>(zw 13 r.1.pos (UF t [61] [60] [61]) [r.1,u.1],u.2) else some (r.1,r.2)
def V8(e:PM Nd):PM (Tx×Bool×Nd):=fun p=>(Xd T [114,101,99] p).bind fun r=>(Vw T 3 r.2).bind fun q=>(qy T [61] q.2).bind fun p1=>(Yj T [102,117,110] p1).bind fun f =>
 (if r.1∧¬ f∧p1.deep<40 then Zq T 14 p1 else some p1).bind fun p2=>(e p2).map fun u=>((q.1,r.1,u.1),u.2)
def BD(e pt:PM Nd):PM Nd:=fun p=>(zH T p).bind fun t =>
 if isT t [108,101,116] then (ZD T p).bind fun r=>(V8 T e r.2).bind fun q=>(qy T [105,110] q.2).bind fun p1=>(e p1).map fun u=>(zw (if q.1.2.1 then 9 else 8) t.pos q.1.1 [q.1.2.2,u.1],u.2)
 else if isT t [102,117,110] then (ZD T p).bind fun r=>(Vw T 3 r.2).bind fun q=>(qy T [45,62] q.2).bind fun p1=>(e p1).map fun u=>(zw 6 t.pos q.1 [u.1],u.2)
 else if isT t [105,102] then (ZD T p).bind fun r=>(e r.2).bind fun c=>(qy T [116,104,101,110] c.2).bind fun p1=>(e p1).bind fun a=>(qy T [101,108,115,101] a.2).bind fun p2=>(e p2).map fun b=>(zw 10 t.pos [] [c.1,a.1,b.1],b.2)
 else (GV T e pt p).bind fun r=>(Yj T [59] r.2).bind fun b=>if b∧¬ r.2.flat then (ZD T r.2).bind fun q=>(e q.2).map fun u=>(zw 14 r.1.pos [] [r.1,u.1],u.2) else some (r.1,r.2)
def af:Nat→PM Nd
 | 0=>fun _=>none
 | n+1=>BD T (Y9 T (af n)) (Y9 T (lU T (n+1)))
def gH(ty:PM Nd)(a:Int):PM Nd:=fun p=>(Vw T 3 p).bind fun q=>(Uq T (T.length+2) (zw 25 a q.1 []) q.2).bind fun u=>(qy T [61] u.2).bind fun p1=>EE T ty (T.length+2) true u.1 p1
def kH(e ty:PM Nd):PM Nd:=fun p=>(Yj T [116,121,112,101] p).bind fun b=>(ZD T p).bind fun r =>
 (if b then gH T ty r.1.pos r.2 else (V8 T e { r.2 with flat:=true }).map fun q=>(zw (if q.1.2.1 then 29 else 28) r.1.pos q.1.1 [q.1.2.2],{ q.2 with flat:=false })).bind fun u =>
 (qy T [59] u.2).map fun p1=>(u.1,p1)
def Df(e ty:PM Nd):Nat→Nd→PM Nd
 | 0,_=>fun _=>none
 | n+1,nd=>fun p=>(zH T p).bind fun t=>if isT t [116,121,112,101]∨isT t [108,101,116] then (if nd.kids.length=60 then (Zq T 16 p).map fun p1=>(nd,p1) else (kH T e ty p).bind fun r=>Df e ty n (nd.addKid r.1) r.2) else some (nd,p)
def hG(e ty:PM Nd):PM Nd:=fun p=>(lP T p).bind fun a=>(Df T e ty (T.length+2) (zw 30 a [] []) p).bind fun r=>(qy T [100,111] r.2).bind fun p1 =>
 (e p1).bind fun u=>(zH T u.2).bind fun t'=>(if t'.kind≠0 then Zq T 14 u.2 else some u.2).map fun p2=>(r.1.addKid u.1,p2)
def D6:Option (Nd×Int×Int):=(hG T (Y9 T (af T 42)) (Y9 T (Pf T 42)) ⟨0,0,false,0,0⟩).map fun r=>if r.2.e=0 then (r.1,0,0) else (Wf,r.2.bad,r.2.e)
end
end Go.AL
