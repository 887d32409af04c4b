/- What show.Program computes, as plain functions. -/
import Derived.Test.YtkokccjfpebomaaGreatDoorP8
import Derived.Test.YtkokccjfpebomaaGreatDoorM5
set_option linter.unusedSimpArgs false
set_option linter.unusedVariables false
namespace Go.AL
def Qa:List Tx→Tx
 | []=>[]
 | [a]=>a
 | a::b::r=>a++32::Qa (b::r)
def XV (k:Int):Tx :=
 if k=15 then [112,114,105,110,116] else if k=16 then [114,97,105,115,101] else if k=17 then [115,112,97,119,110] else if k=18 then [97,116,111,109,105,99,97,108,108,121] else if k=21 then [116,118,97,114]
 else if k=22 then [114,101,97,100] else if k=23 then [119,114,105,116,101] else if k=20 then [111,114,101,108,115,101] else []
def Y3 (t:Tx):Int:=if t=[61]∨t=[60] then 5 else if t=[43]∨t=[45]∨t=[94] then 4 else 3
def Jx (n:Nd):Int :=
 if n.kind=14 then 7 else if n.kind=8∨n.kind=9∨n.kind=6∨n.kind=10 then 6 else if n.kind=13 then Y3 n.text
 else if n.kind=7 then 1 else if n.kind=5 then (if 0<n.kids.length then 2 else 0) else if XV n.kind≠[] then 2 else 0
def qV (n:Nd):Bool :=
 decide ((if n.kind=10 then 3 else if n.kind=7∨n.kind=8∨n.kind=9∨n.kind=12∨n.kind=13∨n.kind=14 then 2
  else if n.kind=6∨n.kind=11∨n.kind=28∨n.kind=29 then 1 else 0)≤n.kids.length)
def zfS:Nat→Int→Tx→Tx
 | 0,_,acc=>acc
 | k+1,n,acc=>let acc:=UInt8.ofNat (48+(Int.tmod n 10).natAbs)::acc
  if Int.tdiv n 10=0 then acc else zfS k (Int.tdiv n 10) acc
def JU (n:Int):Int:=Int.bmod n 9223372036854775808
def za6 (n:Int):Tx:=(if JU n<0 then [45] else [])++zfS 20 (JU n) []
def zdO (c:UInt8):UInt8:=hexL.getD c.toNat 0
def QO (c:UInt8):Tx:=if J2 c then [c] else if c=10 then [92,110] else if c=34∨c=92 then [92,c] else [92,120,zdO (c >>> 4),zdO (c &&& 15)]
def zau (s:Tx):Tx:=34::(s.flatMap QO++[34])
section
variable (T:Nd→Int→Tx)
def zA (n:Nd) (most loose:Int):Tx:=if most<Jx n∨n.kind=5∧most=1 then Qa [[40],T n 7,[41]] else T n loose
def Y6 (loose:Int):Tx→List Nd→Tx
 | w,[]=>w
 | w,k::r=>Y6 loose (Qa [w,zA T k 0 loose]) r
def qC (n:Nd) (i:Nat):Nd:=n.kids.getD i JH
def opF (n:Nd) (loose:Int):Tx :=
 let l:Int:=if Y3 n.text=5 then 4 else Y3 n.text
 let r:Int:=if Y3 n.text=5 then 4 else Y3 n.text-1
 Qa [zA T (qC n 0) l loose,n.text,zA T (qC n 1) r loose]
def Xd (w:Tx) (n:Nd) (loose:Int):Tx:=Qa [w,n.text,[61],zA T (qC n 0) loose loose]
def Yo:Tx→List Nd→Tx
 | s,a::b::r=>Yo (s++Qa [[32,124],T a 7,[45,62],zA T b 7 7]) r
 | s,_=>s
def Qo (n:Nd) (loose:Int):Tx :=
 if qV n=false then [36] else if XV n.kind≠[] then Y6 T loose (XV n.kind) n.kids
 else if n.kind=1 then za6 n.num else if n.kind=2 then zau n.text else if n.kind=3 then [40,32,41]
 else if n.kind=4∨n.kind=5∨n.kind=27 then Y6 T loose n.text n.kids
 else if n.kind=24 then [95] else if n.kind=19 then [114,101,116,114,121]
 else if n.kind=6 then Qa [[102,117,110],n.text,[45,62],zA T (qC n 0) loose loose]
 else if n.kind=7 then Qa [zA T (qC n 0) 1 loose,zA T (qC n 1) 0 loose]
 else if n.kind=8 then Qa [Xd T [108,101,116] n loose,[105,110],zA T (qC n 1) loose loose]
 else if n.kind=9 then Qa [Xd T [108,101,116,32,114,101,99] n loose,[105,110],zA T (qC n 1) loose loose]
 else if n.kind=10 then Qa [[105,102],zA T (qC n 0) loose loose,[116,104,101,110],zA T (qC n 1) loose loose,[101,108,115,101],zA T (qC n 2) loose loose]
 else if n.kind=11 then Qa [[109,97,116,99,104],zA T (qC n 0) 7 7,[119,105,116,104]]++Yo T [] n.kids.tail++[32,101,110,100]
 else if n.kind=12 then Qa [[116,114,121],zA T (qC n 0) 7 7,[119,105,116,104],n.text,[45,62],zA T (qC n 1) 7 7,[101,110,100]]
 else if n.kind=13 then opF T n loose
 else if n.kind=14 then Qa [zA T (qC n 0) 5 loose,[59],zA T (qC n 1) 7 7]
 else [36]
end
def zI:Nat→Nd→Int→Tx
 | 0=>fun _ _=>[]
 | d+1=>Qo (zI d)
def XA (T:Nd→Tx):Tx→List Nd→Tx
 | s,[]=>s
 | s,k::r=>XA T (if 0<k.kids.length then Qa [s,[40],T k,[41]] else Qa [s,T k]) r
def ZK:Nat→Nd→Tx
 | 0=>fun _=>[]
 | d+1=>fun n=>XA (ZK d) n.text n.kids
def zbI (T:Nd→Tx):Nat→Tx→List Nd→Tx
 | _,s,[]=>s
 | i,s,k::r=>zbI T (i+1) (Qa [s,if i=0 then [111,102] else [44],T k]) r
def zcx (d:Nat) (n:Nd):Tx:=zbI (ZK d) 0 n.text n.kids
def JJ (d:Nat):Nat→Tx→List Nd→Tx
 | _,s,[]=>s
 | i,s,k::r=>JJ d (i+1) (Qa [if 0<i then Qa [s,[124]] else s,zcx d k]) r
def Xl (d:Nat) (n:Nd):Tx :=
 if n.kind=28∧qV n=true then Xd (zI d) [108,101,116] n 6
 else if n.kind=29∧qV n=true then Xd (zI d) [108,101,116,32,114,101,99] n 6
 else if n.kind≠25 then [36]
 else JJ d 0 (Qa (([[116,121,112,101],n.text]++n.names)++[[61]])) n.kids
def Yf (d:Nat):Tx→List Nd→Tx
 | s,[]=>s
 | s,k::r=>Yf d (s++Qa [Xl d k,[59,32]]) r
def QH (d:Nat) (n:Nd):Tx:=Yf d [] n.kids.dropLast++Qa [[100,111],zA (zI d) (n.kids.getLastD JH) 7 7]
end Go.AL
namespace Go.AL
inductive Dep:Nat→Nd→Prop where
 | mk (d:Nat) (n:Nd) (h:∀ c∈n.kids,Dep d c):Dep (d+1) n
theorem Dep.kids {d:Nat} {n:Nd} (h:Dep (d+1) n):∀ c∈n.kids,Dep d c:=by cases h;assumption
theorem Dep.pos {d:Nat} {n:Nd} (h:Dep d n):∃ k,d=k+1:=by cases h;exact⟨_,rfl⟩
theorem Dep.mono {d:Nat} {n:Nd} (h:Dep d n):∀ {k:Nat},d≤k→Dep k n:=by
 induction h with
 | mk d n h ih =>
  intro k hk
  obtain⟨j,rfl⟩:∃ j,k=j+1:=⟨k-1,by omega⟩
  exact .mk _ _ fun c hc=>ih c hc (by omega)
mutual
theorem zoe:∀ n:Nd,∃ d,Dep d n
 | .mk k t m a ns ks=>by
  obtain⟨d,h⟩:=zmy ks
  exact⟨d+1,.mk _ _ h⟩
theorem zmy:∀ l:List Nd,∃ d,∀ c∈l,Dep d c
 | []=>⟨0,fun c hc=>by cases hc⟩
 | n::r=>by
  obtain⟨d,h⟩:=zoe n
  obtain⟨e,g⟩:=zmy r
  refine⟨d+e,fun c hc=>?_⟩
  rcases List.mem_cons.1 hc with rfl | hc
  ·exact h.mono (Nat.le_add_right _ _)
  ·exact (g c hc).mono (Nat.le_add_left _ _)
end
theorem zgO:∀ {l r:List Nd},qb l r=true→∀ i,qK (l.getD i JH) (r.getD i JH)=true
 | [],[],_,i=>by simp;exact zmu rfl rfl rfl rfl rfl
 | [],_::_,h,_=>by simp[qb] at h
 | _::_,[],h,_=>by simp[qb] at h
 | a::l,b::r,h,i=>by
  simp only[qb,Bool.and_eq_true] at h
  cases i with
  | zero=>exact h.1
  | succ i=>simpa using zgO h.2 i
theorem Vh {a b:Nd} (h:qK a b=true) (i:Nat):qK (qC a i) (qC b i)=true:=zgO (Zq h).2.2.2.2 i
theorem zaS {a b:Nd} (h:qK a b=true):a.kids.length=b.kids.length:=VQ (Zq h).2.2.2.2
theorem zlh {a b:Nd} (h:qK a b=true):Jx a=Jx b:=by
 have p:=Zq h
 unfold Jx;rw[p.1,p.2.1,zaS h]
theorem zgG {a b:Nd} (h:qK a b=true):qV a=qV b:=by
 have p:=Zq h
 unfold qV;rw[p.1,zaS h]
section
variable {T U:Nd→Int→Tx}
theorem Qw (hT:∀ a b l,qK a b=true→T a l=U b l) {a b:Nd} (h:qK a b=true) (m l:Int):zA T a m l=zA U b m l:=by
 unfold zA
 rw[zlh h,(Zq h).1,hT a b 7 h,hT a b l h]
theorem zcE (hT:∀ a b l,qK a b=true→T a l=U b l) (lo:Int):∀ {l r:List Nd},qb l r=true→∀ w,Y6 T lo w l=Y6 U lo w r
 | [],[],_,w=>rfl
 | [],_::_,h,_=>by simp[qb] at h
 | _::_,[],h,_=>by simp[qb] at h
 | a::l,b::r,h,w=>by
  simp only[qb,Bool.and_eq_true] at h
  show Y6 T lo _ l=Y6 U lo _ r
  rw[Qw hT h.1,zcE hT lo h.2]
theorem zgJ (hT:∀ a b l,qK a b=true→T a l=U b l):∀ {l r:List Nd},qb l r=true→∀ w,Yo T w l=Yo U w r
 | [],[],_,w=>rfl
 | [],_::_,h,_=>by simp[qb] at h
 | _::_,[],h,_=>by simp[qb] at h
 | [a],[b],h,w=>rfl
 | [a],b::c::r,h,w=>by simp[qb] at h
 | a::c::r,[b],h,w=>by simp[qb] at h
 | a::c::l,b::d::r,h,w=>by
  simp only[qb,Bool.and_eq_true] at h
  show Yo T _ l=Yo U _ r
  rw[hT a b 7 h.1,Qw hT h.2.1,zgJ hT h.2.2]
theorem zkP {l r:List Nd} (h:qb l r=true):qb l.tail r.tail=true:=by
 cases l with
 | nil=>cases r with
  | nil=>rfl
  | cons b r=>simp[qb] at h
 | cons a l=>cases r with
  | nil=>simp[qb] at h
  | cons b r=>simp only[qb,Bool.and_eq_true] at h;exact h.2
theorem zaQ (hT:∀ a b l,qK a b=true→T a l=U b l) {a b:Nd} (h:qK a b=true) (w:Tx) (l:Int):Xd T w a l=Xd U w b l:=by
 unfold Xd
 rw[(Zq h).2.1,Qw hT (Vh h 0)]
theorem zrX (hT:∀ a b l,qK a b=true→T a l=U b l) {a b:Nd} (h:qK a b=true) (l:Int):opF T a l=opF U b l:=by
 unfold opF
 rw[(Zq h).2.1]
 simp only[Qw hT (Vh h 0),Qw hT (Vh h 1)]
theorem zkA (hT:∀ a b l,qK a b=true→T a l=U b l) {a b:Nd} (h:qK a b=true) (l:Int):Qo T a l=Qo U b l:=by
 have p:=Zq h
 unfold Qo
 rw[zgG h,p.1,p.2.1,p.2.2.1,zcE hT l p.2.2.2.2,zcE hT l p.2.2.2.2,zgJ hT (zkP p.2.2.2.2),zrX hT h,zaQ hT h,zaQ hT h]
 simp only[Qw hT (Vh h 0),Qw hT (Vh h 1),Qw hT (Vh h 2)]
end
theorem zc3:∀ (d:Nat) {a b:Nd} (l:Int),qK a b=true→zI d a l=zI d b l
 | 0,_,_,_,_=>rfl
 | d+1,a,b,l,h=>zkA (fun a b l h=>zc3 d l h) h l
theorem zdA {T U:Nd→Tx} (hT:∀ a b,qK a b=true→T a=U b):∀ {l r:List Nd},qb l r=true→∀ w,XA T w l=XA U w r
 | [],[],_,w=>rfl
 | [],_::_,h,_=>by simp[qb] at h
 | _::_,[],h,_=>by simp[qb] at h
 | a::l,b::r,h,w=>by
  simp only[qb,Bool.and_eq_true] at h
  show XA T _ l=XA U _ r
  rw[hT a b h.1,zaS h.1,zdA hT h.2]
theorem zeD:∀ (d:Nat) {a b:Nd},qK a b=true→ZK d a=ZK d b
 | 0,_,_,_=>rfl
 | d+1,a,b,h=>by
  have p:=Zq h
  show XA _ a.text a.kids=XA _ b.text b.kids
  rw[p.2.1,zdA (fun a b h=>zeD d h) p.2.2.2.2]
theorem zf9 {T:Nd→Tx} (hT:∀ a b,qK a b=true→T a=T b):∀ {l r:List Nd},qb l r=true→∀ i w,zbI T i w l=zbI T i w r
 | [],[],_,_,w=>rfl
 | [],_::_,h,_,_=>by simp[qb] at h
 | _::_,[],h,_,_=>by simp[qb] at h
 | a::l,b::r,h,i,w=>by
  simp only[qb,Bool.and_eq_true] at h
  show zbI T _ _ l=zbI T _ _ r
  rw[hT a b h.1,zf9 hT h.2]
theorem zqM (d:Nat) {a b:Nd} (h:qK a b=true):zcx d a=zcx d b:=by
 have p:=Zq h
 unfold zcx
 rw[p.2.1,zf9 (fun a b h=>zeD d h) p.2.2.2.2]
theorem zgS (d:Nat):∀ {l r:List Nd},qb l r=true→∀ i w,JJ d i w l=JJ d i w r
 | [],[],_,_,w=>rfl
 | [],_::_,h,_,_=>by simp[qb] at h
 | _::_,[],h,_,_=>by simp[qb] at h
 | a::l,b::r,h,i,w=>by
  simp only[qb,Bool.and_eq_true] at h
  show JJ d _ _ l=JJ d _ _ r
  rw[zqM d h.1,zgS d h.2]
theorem znx (d:Nat) {a b:Nd} (h:qK a b=true):Xl d a=Xl d b:=by
 have p:=Zq h
 have hT:∀ (a b:Nd) (l:Int),qK a b=true→zI d a l=zI d b l:=fun a b l h=>zc3 d l h
 unfold Xl
 rw[zgG h,p.1,p.2.1,p.2.2.2.1,zaQ hT h,zaQ hT h,zgS d p.2.2.2.2]
theorem zfd (d:Nat):∀ {l r:List Nd},qb l r=true→∀ w,Yf d w l=Yf d w r
 | [],[],_,w=>rfl
 | [],_::_,h,_=>by simp[qb] at h
 | _::_,[],h,_=>by simp[qb] at h
 | a::l,b::r,h,w=>by
  simp only[qb,Bool.and_eq_true] at h
  show Yf d _ l=Yf d _ r
  rw[znx d h.1,zfd d h.2]
theorem zfA:∀ {l r:List Nd},qb l r=true→qb l.dropLast r.dropLast=true∧qK (l.getLastD JH) (r.getLastD JH)=true
 | [],[],_=>⟨rfl,zmu rfl rfl rfl rfl rfl⟩
 | [],_::_,h=>by simp[qb] at h
 | _::_,[],h=>by simp[qb] at h
 | [a],[b],h=>by simp[qb] at h;exact⟨rfl,h⟩
 | [a],b::c::r,h=>by simp[qb] at h
 | a::c::r,[b],h=>by simp[qb] at h
 | a::c::l,b::d::r,h=>by
  have g:qK a b=true∧qb (c::l) (d::r)=true:=by
   simp only[qb,Bool.and_eq_true] at h ⊢;exact h
  obtain⟨x,y⟩:=zfA g.2
  refine⟨?_,y⟩
  show (qK a b&&qb (c::l).dropLast (d::r).dropLast)=true
  rw[g.1,x];rfl
theorem zls (d:Nat) {a b:Nd} (h:qK a b=true):QH d a=QH d b:=by
 have p:=zfA (Zq h).2.2.2.2
 have hT:∀ (a b:Nd) (l:Int),qK a b=true→zI d a l=zI d b l:=fun a b l h=>zc3 d l h
 unfold QH
 rw[zfd d p.1,Qw hT p.2]
mutual
theorem zi8:∀ {a b:Nd} {d:Nat},qK a b=true→Dep d a→Dep d b
 | .mk k t m p ns ks,.mk k' t' m' p' ns' ks',d,h,hd=>by
  cases hd with
  | mk d _ g=>exact .mk _ _ (zgN (Zq h).2.2.2.2 g)
theorem zgN:∀ {l r:List Nd} {d:Nat},qb l r=true→(∀ c∈l,Dep d c)→∀ c∈r,Dep d c
 | [],[],_,_,g=>g
 | [],_::_,_,h,_=>by simp[qb] at h
 | _::_,[],_,h,_=>by simp[qb] at h
 | a::l,b::r,d,h,g=>by
  simp only[qb,Bool.and_eq_true] at h
  intro c hc
  rcases List.mem_cons.1 hc with rfl | hc
  ·exact zi8 h.1 (g a List.mem_cons_self)
  ·exact zgN h.2 (fun c hc=>g c (List.mem_cons_of_mem _ hc)) c hc
end
end Go.AL
namespace Go.AL
def XX (l:List Tx):Nat:=(l.map fun s=>s.length+1).sum
mutual
def wt:Nd→Nat
 | .mk _ t _ _ ns ks=>1+t.length+XX ns+QV ks
def QV:List Nd→Nat
 | []=>0
 | n::r=>wt n+QV r
end
theorem zb8 (n:Nd):wt n=1+n.text.length+XX n.names+QV n.kids:=by cases n;rfl
inductive Fit:Nd→Prop where
 | mk (n:Nd) (h:∀ c∈n.kids,Fit c) (h1:n.kids.length≤100000) (h2:n.names.length≤100000) (h3:n.text.length≤100000):Fit n
theorem Fit.kids {n:Nd} (h:Fit n):(∀ c∈n.kids,Fit c)∧n.kids.length≤100000∧n.names.length≤100000∧n.text.length≤100000:=by cases h with | mk _ h h1 h2 h3=>exact⟨h,h1,h2,h3⟩
theorem zlR:∀ l:List Nd,l.length≤QV l
 | []=>Nat.le_refl _
 | n::r=>by
  have:=zlR r
  have:=zb8 n
  simp only[QV,List.length_cons];omega
theorem zkg (l:List Tx):l.length≤XX l:=by
 induction l with
 | nil=>simp[XX]
 | cons a r ih=>simp[XX] at ih ⊢;omega
mutual
theorem zlA:∀ n:Nd,wt n≤100000→Fit n
 | .mk k t m a ns ks,h=>by
  have hw:=zb8 (.mk k t m a ns ks)
  have h1:=zlR ks
  have h2:=zkg ns
  simp only[Nd.text,Nd.names,Nd.kids] at hw
  exact .mk _ (zmc ks (by omega)) (by simp only[Nd.kids];omega) (by simp only[Nd.names];omega) (by simp only[Nd.text];omega)
theorem zmc:∀ l:List Nd,QV l≤100000→∀ c∈l,Fit c
 | [],_,c,hc=>by cases hc
 | n::r,h,c,hc=>by
  simp only[QV] at h
  have h1:wt n≤100000:=by omega
  have h2:QV r≤100000:=by omega
  rcases List.mem_cons.1 hc with e | hc
  ·rw[e];exact zlA n h1
  ·exact zmc r h2 c hc
end
mutual
theorem zmD:∀ {a b:Nd},qK a b=true→wt a=wt b
 | .mk k t m p ns ks,.mk k' t' m' p' ns' ks',h=>by
  have q:=Zq h
  simp only[Nd.text,Nd.names,Nd.kids] at q
  have:=zj3 q.2.2.2.2
  simp only[wt,q.2.1,q.2.2.2.1,this]
theorem zj3:∀ {l r:List Nd},qb l r=true→QV l=QV r
 | [],[],_=>rfl
 | [],_::_,h=>by simp[qb] at h
 | _::_,[],h=>by simp[qb] at h
 | a::l,b::r,h=>by
  simp only[qb,Bool.and_eq_true] at h
  simp only[QV,zmD h.1,zj3 h.2]
end
theorem ZR (a b:Tx):(Qa [a,b]).length=a.length+b.length+1:=by simp[Qa];omega
theorem Z0 (a b c:Tx):(Qa [a,b,c]).length=a.length+b.length+c.length+2:=by simp[Qa];omega
theorem QY (a b c d:Tx):(Qa [a,b,c,d]).length=a.length+b.length+c.length+d.length+3:=by simp[Qa];omega
theorem ziK (a b c d e f:Tx):(Qa [a,b,c,d,e,f]).length=a.length+b.length+c.length+d.length+e.length+f.length+5:=by simp[Qa];omega
theorem zjZ (a b c d e f g:Tx):(Qa [a,b,c,d,e,f,g]).length=a.length+b.length+c.length+d.length+e.length+f.length+g.length+6:=by simp[Qa];omega
theorem zmA:∀ (k:Nat) (n:Int) (acc:Tx),(zfS k n acc).length≤k+acc.length
 | 0,_,acc=>by simp[zfS]
 | k+1,n,acc=>by
  unfold zfS
  dsimp only
  split
  ·simp;omega
  ·have:=zmA k (Int.tdiv n 10) (UInt8.ofNat (48+(Int.tmod n 10).natAbs)::acc)
   rw[List.length_cons] at this;omega
theorem zpF (n:Int):(za6 n).length≤21:=by
 unfold za6
 have:=zmA 20 (JU n) []
 rw[List.length_append]
 split <;> simp at this ⊢ <;> omega
theorem znd (s:Tx):(zau s).length≤2+4*s.length:=by
 have h:∀ s:Tx,(s.flatMap QO).length≤4*s.length:=by
  intro s
  induction s with
  | nil=>simp
  | cons c r ih =>
   have hc:(QO c).length≤4:=by
    unfold QO
    repeat' split
    all_goals simp
   rw[List.flatMap_cons,List.length_append,List.length_cons];omega
 have:=h s
 unfold zau
 simp only[List.length_cons,List.length_append,List.length_nil]
 omega
theorem zrm (k:Int):(XV k).length≤10:=by
 unfold XV
 repeat' split
 all_goals simp
section
variable {T:Nd→Int→Tx}
def TB (T:Nd→Int→Tx):Prop:=∀ n l,(T n l).length+20≤60*wt n
theorem YH (hT:TB T) (n:Nd) (m l:Int):(zA T n m l).length+16≤60*wt n:=by
 have h7:=hT n 7
 have hl:=hT n l
 unfold zA
 split
 ·rw[Z0];simp only[List.length_cons,List.length_nil];omega
 ·omega
theorem zeq (hT:TB T) (l:Int):∀ (ks:List Nd) (w:Tx),(Y6 T l w ks).length≤w.length+60*QV ks
 | [],w=>by simp[Y6,QV]
 | k::r,w=>by
  have h:=zeq hT l r (Qa [w,zA T k 0 l])
  have:=YH hT k 0 l
  rw[ZR] at h
  show (Y6 T l _ r).length≤_+60*(wt k+QV r)
  omega
theorem zjD (hT:TB T):∀ (ks:List Nd) (w:Tx),(Yo T w ks).length≤w.length+60*QV ks
 | [],w=>by simp[Yo,QV]
 | [a],w=>by simp[Yo,QV]
 | a::b::r,w=>by
  have h:=zjD hT r (w++Qa [[32,124],T a 7,[45,62],zA T b 7 7])
  have h1:=hT a 7
  have h2:=YH hT b 7 7
  rw[List.length_append,QY] at h
  simp only[List.length_cons,List.length_nil] at h
  show (Yo T _ r).length≤_+60*(wt a+(wt b+QV r))
  omega
theorem zeU {n:Nd} (h:1≤n.kids.length):wt (qC n 0)≤QV n.kids:=by
 unfold qC
 match n.kids,h with
 | a::r,_=>exact Nat.le_add_right _ _
theorem Vi {n:Nd} (h:2≤n.kids.length):wt (qC n 0)+wt (qC n 1)≤QV n.kids:=by
 unfold qC
 match n.kids,h with
 | a::b::r,_=>simp only[QV,List.getD_cons_zero,List.getD_cons_succ];omega
theorem zqr {n:Nd} (h:3≤n.kids.length):wt (qC n 0)+wt (qC n 1)+wt (qC n 2)≤QV n.kids:=by
 unfold qC
 match n.kids,h with
 | a::b::c::r,_=>simp only[QV,List.getD_cons_zero,List.getD_cons_succ];omega
theorem zpe {n:Nd} (h:1≤n.kids.length):wt (qC n 0)+QV n.kids.tail≤QV n.kids:=by
 unfold qC
 match n.kids,h with
 | a::r,_=>simp[QV]
theorem znR (hT:TB T):TB (Qo T):=by
 intro n l
 have hw:=zb8 n
 have W:=fun k m l=>YH hT k m l
 have hk:=zrm n.kind
 unfold Qo
 by_cases c:qV n=false
 ·rw[if_pos c]
  simp only[List.length_cons,List.length_nil];omega
 rw[if_neg c]
 have hm:qV n=true:=by simpa using c
 unfold qV at hm
 by_cases c:XV n.kind≠[]
 ·rw[if_pos c]
  have:=zeq hT l n.kids (XV n.kind);omega
 rw[if_neg c]
 clear c
 by_cases c:n.kind=1
 ·rw[if_pos c]
  have:=zpF n.num;omega
 rw[if_neg c]
 clear c
 by_cases c:n.kind=2
 ·rw[if_pos c]
  have:=znd n.text;omega
 rw[if_neg c]
 clear c
 by_cases c:n.kind=3
 ·rw[if_pos c]
  simp only[List.length_cons,List.length_nil];omega
 rw[if_neg c]
 clear c
 by_cases c:n.kind=4∨n.kind=5∨n.kind=27
 ·rw[if_pos c]
  have:=zeq hT l n.kids n.text;omega
 rw[if_neg c]
 clear c
 by_cases c:n.kind=24
 ·rw[if_pos c]
  simp only[List.length_cons,List.length_nil];omega
 rw[if_neg c]
 clear c
 by_cases c:n.kind=19
 ·rw[if_pos c]
  simp only[List.length_cons,List.length_nil];omega
 rw[if_neg c]
 clear c
 by_cases c:n.kind=6
 ·rw[if_pos c]
  simp only[c] at hm
  have:=zeU (n:=n) (by simpa using hm)
  have:=W (qC n 0) l l
  rw[QY];simp only[List.length_cons,List.length_nil];omega
 rw[if_neg c]
 clear c
 by_cases c:n.kind=7
 ·rw[if_pos c]
  simp only[c] at hm
  have:=Vi (n:=n) (by simpa using hm)
  have:=W (qC n 0) 1 l
  have:=W (qC n 1) 0 l
  rw[ZR];omega
 rw[if_neg c]
 clear c
 by_cases c:n.kind=8
 ·rw[if_pos c]
  simp only[c] at hm
  have:=Vi (n:=n) (by simpa using hm)
  have:=W (qC n 0) l l
  have:=W (qC n 1) l l
  unfold Xd
  rw[Z0,QY];simp only[List.length_cons,List.length_nil];omega
 rw[if_neg c]
 clear c
 by_cases c:n.kind=9
 ·rw[if_pos c]
  simp only[c] at hm
  have:=Vi (n:=n) (by simpa using hm)
  have:=W (qC n 0) l l
  have:=W (qC n 1) l l
  unfold Xd
  rw[Z0,QY];simp only[List.length_cons,List.length_nil];omega
 rw[if_neg c]
 clear c
 by_cases c:n.kind=10
 ·rw[if_pos c]
  simp only[c] at hm
  have:=zqr (n:=n) (by simpa using hm)
  have:=W (qC n 0) l l
  have:=W (qC n 1) l l
  have:=W (qC n 2) l l
  rw[ziK];simp only[List.length_cons,List.length_nil];omega
 rw[if_neg c]
 clear c
 by_cases c:n.kind=11
 ·rw[if_pos c]
  simp only[c] at hm
  have:=zpe (n:=n) (by simpa using hm)
  have:=W (qC n 0) 7 7
  have:=zjD hT n.kids.tail []
  rw[List.length_append,List.length_append,Z0];simp only[List.length_cons,List.length_nil] at this ⊢;omega
 rw[if_neg c]
 clear c
 by_cases c:n.kind=12
 ·rw[if_pos c]
  simp only[c] at hm
  have:=Vi (n:=n) (by simpa using hm)
  have:=W (qC n 0) 7 7
  have:=W (qC n 1) 7 7
  rw[zjZ];simp only[List.length_cons,List.length_nil];omega
 rw[if_neg c]
 clear c
 by_cases c:n.kind=13
 ·rw[if_pos c]
  simp only[c] at hm
  have:=Vi (n:=n) (by simpa using hm)
  have:=W (qC n 0) (if Y3 n.text=5 then 4 else Y3 n.text) l
  have:=W (qC n 1) (if Y3 n.text=5 then 4 else Y3 n.text-1) l
  unfold opF
  dsimp only
  rw[Z0];omega
 rw[if_neg c]
 clear c
 by_cases c:n.kind=14
 ·rw[if_pos c]
  simp only[c] at hm
  have:=Vi (n:=n) (by simpa using hm)
  have:=W (qC n 0) 5 l
  have:=W (qC n 1) 7 7
  rw[Z0];simp only[List.length_cons,List.length_nil];omega
 rw[if_neg c]
 clear c
 simp only[List.length_cons,List.length_nil];omega
end
theorem zb0:∀ d,TB (zI d)
 | 0=>fun n l=>by have:=zb8 n;simp[zI];omega
 | d+1=>znR (zb0 d)
theorem zfg {T:Nd→Tx} (hT:∀ n,(T n).length+20≤60*wt n):∀ (ks:List Nd) (w:Tx),(XA T w ks).length≤w.length+60*QV ks
 | [],w=>by simp[XA,QV]
 | k::r,w=>by
  have h1:=hT k
  have h:=zfg hT r (if 0<k.kids.length then Qa [w,[40],T k,[41]] else Qa [w,T k])
  show (XA T _ r).length≤_+60*(wt k+QV r)
  split at h
  ·rw[QY] at h;simp only[List.length_cons,List.length_nil] at h;rw[if_pos (by assumption)];omega
  ·rw[ZR] at h;rw[if_neg (by assumption)];omega
theorem zgn:∀ d n,(ZK d n).length+20≤60*wt n
 | 0,n=>by have:=zb8 n;simp[ZK];omega
 | d+1,n=>by
  have:=zfg (zgn d) n.kids n.text
  have:=zb8 n
  show (XA (ZK d) n.text n.kids).length+20≤_
  omega
theorem zjN {T:Nd→Tx} (hT:∀ n,(T n).length+20≤60*wt n):∀ (ks:List Nd) (i:Nat) (w:Tx),(zbI T i w ks).length≤w.length+60*QV ks
 | [],_,w=>by simp[zbI,QV]
 | k::r,i,w=>by
  have h1:=hT k
  have h:=zjN hT r (i+1) (Qa [w,if i=0 then [111,102] else [44],T k])
  have h2:(if i=0 then [111,102] else [44]:Tx).length≤2:=by split <;> simp
  show (zbI T _ _ r).length≤_+60*(wt k+QV r)
  rw[Z0] at h
  omega
theorem ztq (d:Nat) (n:Nd):(zcx d n).length+20≤60*wt n:=by
 have:=zjN (zgn d) n.kids 0 n.text
 have:=zb8 n
 unfold zcx
 omega
theorem zir (d:Nat):∀ (ks:List Nd) (i:Nat) (w:Tx),(JJ d i w ks).length≤w.length+60*QV ks
 | [],_,w=>by simp[JJ,QV]
 | k::r,i,w=>by
  have h1:=ztq d k
  have h:=zir d r (i+1) (Qa [if 0<i then Qa [w,[124]] else w,zcx d k])
  have h2:(if 0<i then Qa [w,[124]] else w:Tx).length≤w.length+2:=by split <;> simp[ZR]
  show (JJ d _ _ r).length≤_+60*(wt k+QV r)
  rw[ZR] at h
  omega
theorem zgm:∀ (l:List Tx) (z:Tx),(Qa (l++[z])).length=XX l+z.length
 | [],z=>by simp[Qa,XX]
 | [a],z=>by simp[Qa,XX];omega
 | a::b::r,z=>by
  have:=zgm (b::r) z
  show (a++32::Qa (b::r++[z])).length=_
  rw[List.length_append,List.length_cons,this]
  simp[XX];omega
theorem zo6 (d:Nat) (n:Nd):(Xl d n).length+20≤60*wt n:=by
 have hw:=zb8 n
 unfold Xl
 split
 ·rename_i h
  have hm:=h.2
  unfold qV at hm
  simp only[h.1] at hm
  have:=zeU (n:=n) (by simpa using hm)
  have:=YH (zb0 d) (qC n 0) 6 6
  unfold Xd
  rw[QY];simp only[List.length_cons,List.length_nil];omega
 split
 ·rename_i h
  have hm:=h.2
  unfold qV at hm
  simp only[h.1] at hm
  have:=zeU (n:=n) (by simpa using hm)
  have:=YH (zb0 d) (qC n 0) 6 6
  unfold Xd
  rw[QY];simp only[List.length_cons,List.length_nil];omega
 split
 ·simp only[List.length_cons,List.length_nil];omega
 ·have:=zir d n.kids 0 (Qa (([[116,121,112,101],n.text]++n.names)++[[61]]))
  rw[zgm] at this
  simp[XX] at this
  simp[XX] at hw
  simp
  omega
theorem zgp (d:Nat):∀ (ks:List Nd) (w:Tx),(Yf d w ks).length≤w.length+60*QV ks
 | [],w=>by simp[Yf,QV]
 | k::r,w=>by
  have h1:=zo6 d k
  have h:=zgp d r (w++Qa [Xl d k,[59,32]])
  show (Yf d _ r).length≤_+60*(wt k+QV r)
  rw[List.length_append,ZR] at h
  simp only[List.length_cons,List.length_nil] at h
  omega
theorem zjw:∀ l:List Nd,QV l.dropLast+wt (l.getLastD JH)≤QV l+1
 | []=>by simp[QV,JH,wt,XX]
 | [a]=>by simp[QV]
 | a::b::r=>by
  have:=zjw (b::r)
  show wt a+QV (b::r).dropLast+wt ((b::r).getLastD JH)≤wt a+QV (b::r)+1
  omega
theorem zn6 (d:Nat) (n:Nd):(QH d n).length≤60*wt n+60:=by
 have h1:=zgp d n.kids.dropLast []
 have h2:=YH (zb0 d) (n.kids.getLastD JH) 7 7
 have h3:=zjw n.kids
 have hw:=zb8 n
 unfold QH
 rw[List.length_append,ZR]
 simp only[List.length_cons,List.length_nil] at h1 ⊢
 omega
end Go.AL
namespace Go.AL
def wq (T:List Tk) (i:Nat):Nat:=((T.take i).map fun t=>t.text.length+8).sum
theorem zrx (T:List Tk) {i j:Nat} (h:i≤j):wq T i≤wq T j:=by
 unfold wq
 obtain⟨k,rfl⟩:=Nat.exists_eq_add_of_le h
 rw[List.take_add,List.map_append,List.sum_append]
 exact Nat.le_add_right _ _
theorem zsu {T:List Tk} {i:Nat} {t:Tk} (h:T[i]?=some t):wq T (i+1)=wq T i+t.text.length+8:=by
 unfold wq
 rw[List.take_add_one,h];simp;omega
theorem Xq (n c:Nd):wt (n.addKid c)=wt n+wt c:=by
 have happ:∀ l r:List Nd,QV (l++r)=QV l+QV r:=by
  intro l r
  induction l with
  | nil=>simp[QV]
  | cons a l ih=>simp[QV,ih];omega
 cases n;simp[Nd.addKid,wt,happ,QV];omega
theorem zrQ (l r:List Nd):QV (l++r)=QV l+QV r:=by
 induction l with
 | nil=>simp[QV]
 | cons a l ih=>simp[QV,ih];omega
theorem zlr (n:Nd) (l:List Nd):wt (n.addKids l)=wt n+QV l:=by
 cases n;simp[Nd.addKids,wt,zrQ];omega
theorem zlo (n:Nd) (s:Tx):wt (n.addName s)=wt n+s.length+1:=by
 cases n;simp[Nd.addName,wt,XX];omega
theorem ZY (k a:Int) (t:Tx) (l:List Nd):wt (zR k a t l)=1+t.length+QV l:=by simp[zR,wt,XX]
variable {T:List Tk}
def Go1 (T:List Tk) (p q:PS) (n:Nat):Prop:=q.e=0→p.e=0∧n+wq T p.pos≤wq T q.pos
theorem Go1.refl {p:PS}:Go1 T p p 0:=fun h=>⟨h,by omega⟩
theorem Go1.trans {p q r:PS} {a b c:Nat} (x:Go1 T p q a) (y:Go1 T q r b) (h:c≤a+b):Go1 T p r c:=fun hr=>by
 obtain⟨h1,h2⟩:=y hr
 obtain⟨h3,h4⟩:=x h1
 exact⟨h3,by omega⟩
theorem Go1.le {p q:PS} {a b:Nat} (x:Go1 T p q a) (h:b≤a):Go1 T p q b:=fun hr=>by
 obtain⟨h3,h4⟩:=x hr
 exact⟨h3,by omega⟩
def Y7 (T:List Tk) (e:PM Nd):Prop:=∀ p nd q,e p=some (nd,q)→Go1 T p q (wt nd+1)
theorem zae {p q:PS} {e:Int} (he:e≠0) (h:Zc T e p=some q) (n:Nat):Go1 T p q n:=by
 unfold Zc at h
 split at h
 ·simp only[Option.map_eq_some_iff] at h
  obtain⟨t,_,rfl⟩:=h
  exact fun x=>absurd x he
 ·cases h;rename_i hp;exact fun x=>absurd x hp
theorem zuo {p:PS} {t:Tk} (h:zX T p=some t):(p.e=0∧T[p.pos]?=some t)∨(p.e≠0∧t=tk0):=by
 unfold zX at h
 split at h
 ·exact .inl ⟨by assumption,h⟩
 ·cases h;exact .inr ⟨by assumption,rfl⟩
theorem Xh {p q:PS} {t:Tk} (h:ZP T p=some (t,q)):zX T p=some t∧Go1 T p q 0∧(t.kind≠0→Go1 T p q (t.text.length+8)):=by
 unfold ZP at h
 simp only[Option.map_eq_some_iff,Prod.mk.injEq] at h
 obtain⟨t',hl,rfl,rfl⟩:=h
 refine⟨hl,?_,fun hk=>?_⟩
 ·split
  ·exact fun x=>⟨x,by have:=zrx T (Nat.le_succ p.pos);simpa using this⟩
  ·exact .refl
 ·rcases zuo hl with⟨h1,h2⟩ | ⟨h1,rfl⟩
  ·rw[if_pos ⟨h1,hk⟩]
   exact fun x=>⟨h1,by have:=zsu h2;show _≤wq T (p.pos+1);omega⟩
  ·exact absurd rfl hk
theorem zfq {t:Tk} {s:Tx} (h:isT t s=true):t.kind≠0:=by
 unfold isT at h
 simp only[Bool.and_eq_true,Bool.or_eq_true,beq_iff_eq] at h
 omega
theorem zbV {p q:PS} {s:Tx} {b:Bool} (h:Xz T s p=some (b,q)):Go1 T p q (if b=true then 8 else 0):=by
 unfold Xz Y1 at h
 simp only[Option.bind_eq_some_iff,Option.map_eq_some_iff] at h
 obtain⟨c,⟨t,hl,rfl⟩,h⟩:=h
 split at h
 ·simp only[Option.map_eq_some_iff,Prod.mk.injEq] at h
  obtain⟨⟨t',q'⟩,h2,rfl,rfl⟩:=h
  obtain⟨g1,_,g2⟩:=Xh h2
  rw[hl] at g1;cases g1
  exact (g2 (zfq (by assumption))).le (by simp)
 ·cases h;exact .refl
theorem Xa {p q:PS} {s:Tx} (h:qF T s p=some q):Go1 T p q 8:=by
 unfold qF at h
 simp only[Option.bind_eq_some_iff,Prod.exists] at h
 obtain⟨b,q',h1,h2⟩:=h
 have:=zbV h1
 split at h2
 ·cases h2
  have hb:b=true:=by assumption
  rw[if_pos hb] at this;exact this
 ·exact this.trans (zae (by decide) h2 8) (by omega)
theorem zc5 {p q:PS} {k:Int} {t:Tk} (hk:k≠0) (h:Yg T k p=some (t,q)):Go1 T p q (t.text.length+8):=by
 unfold Yg at h
 simp only[Option.bind_eq_some_iff] at h
 obtain⟨t1,hl,p1,h1,h2⟩:=h
 obtain⟨g1,g0,g2⟩:=Xh h2
 split at h1
 ·exact (zae (by decide) h1 _).trans g0 (Nat.le_refl _)
 ·cases h1
  rw[hl] at g1;cases g1
  exact g2 (by rename_i x;have:=Classical.not_not.1 x;omega)
theorem zcJ {p q:PS} {n m:Int} (h:Qk T n m p=some q):Go1 T p q 0:=by
 unfold Qk at h
 split at h
 ·exact zae (by decide) h 0
 ·cases h;exact .refl
theorem zdS {e:PM Nd} (he:Y7 T e):Y7 T (Yt T e):=by
 intro p nd q h
 unfold Yt at h
 simp only[Option.bind_eq_some_iff] at h
 obtain⟨p1,h1,h⟩:=h
 have g1:Go1 T p p1 0:=by
  split at h1
  ·exact zae (by decide) h1 0
  ·cases h1;exact .refl
 split at h
 ·cases h;rename_i x;exact fun y=>absurd y x
 ·simp only[Option.bind_eq_some_iff,Prod.exists] at h
  obtain⟨r,p2,h2,h3⟩:=h
  split at h3
  ·cases h3
  ·cases h3
   have:=he _ _ _ h2
   exact g1.trans (q:=p1) (fun x=>this x) (by omega)
theorem zmp {e:PM Nd} (he:Y7 T e) {p q:PS} {nd:Nd} (h:J1 T e p=some (nd,q)):Go1 T p q (wt nd+8):=by
 unfold J1 at h
 simp only[Option.bind_eq_some_iff,Option.map_eq_some_iff,Prod.exists,Prod.mk.injEq] at h
 obtain⟨p1,h1,r,p2,h2,p3,h3,rfl,rfl⟩:=h
 exact (Xa h1).trans (((zdS he) _ _ _ h2).trans (Xa h3) (Nat.le_refl _)) (by omega)
theorem zov {kinds:List (Int×Int)} (hk:∀ q∈kinds,q.1≠0) {p q:PS} {nd:Nd} (h:X4 T kinds p=some (nd,q)):Go1 T p q (wt nd+7):=by
 unfold X4 at h
 simp only[Option.bind_eq_some_iff] at h
 obtain⟨t,hl,h⟩:=h
 split at h
 ·simp only[Option.map_eq_some_iff,Prod.mk.injEq] at h
  obtain⟨q',h1,rfl,rfl⟩:=h
  exact zae (by decide) h1 _
 ·simp only[Option.map_eq_some_iff,Prod.mk.injEq,Prod.exists] at h
  obtain⟨t',q',h1,rfl,rfl⟩:=h
  rename_i hne
  have hk0:t.kind≠0:=by
   cases hf:kinds.find? fun q=>q.1==t.kind with
   | none=>rw[hf] at hne;exact absurd rfl hne
   | some y =>
    have h1:=List.find?_some hf
    have h2:=hk y (List.mem_of_find?_eq_some hf)
    have h1:y.1=t.kind:=by simpa using h1
    omega
  obtain⟨g1,_,g2⟩:=Xh h1
  rw[hl] at g1;cases g1
  exact (g2 hk0).le (by simp[wt,XX,QV];omega)
theorem zoI {e:PM Nd} (he:Y7 T e):∀ (n:Nat) (nd:Nd) (p:PS) (r:Nd) (q:PS),tyL T e n nd p=some (r,q)→∃ k,wt r=wt nd+k∧Go1 T p q k
 | 0,_,_,_,_,h=>by cases h
 | n+1,nd,p,r,q,h=>by
  unfold tyL at h
  simp only[Option.bind_eq_some_iff] at h
  obtain⟨t,hl,h⟩:=h
  split at h
  ·simp only[Option.bind_eq_some_iff,Prod.exists] at h
   obtain⟨t',p1,h1,h2⟩:=h
   obtain⟨g1,_,g2⟩:=Xh h1
   rw[hl] at g1;cases g1
   obtain⟨k,h3,h4⟩:=zoI he n _ _ _ _ h2
   rw[Xq,ZY] at h3
   exact⟨1+t.text.length+k,by simp[QV] at h3;omega,(g2 (by omega)).trans h4 (by omega)⟩
  ·simp only[Option.bind_eq_some_iff] at h
   obtain⟨b,_,h⟩:=h
   split at h
   ·simp only[Option.bind_eq_some_iff,Prod.exists] at h
    obtain⟨c,p1,h1,h2⟩:=h
    have:=zmp he h1
    obtain⟨k,h3,h4⟩:=zoI he n _ _ _ _ h2
    rw[Xq] at h3
    exact⟨wt c+k,by omega,this.trans h4 (by omega)⟩
   ·cases h;exact⟨0,by omega,.refl⟩
theorem ztS:∀ n,Y7 T (tyF T n)
 | 0=>fun _ _ _ h=>by cases h
 | n+1=>by
  intro p nd q h
  unfold tyF tyS at h
  simp only[Option.bind_eq_some_iff,Prod.exists] at h
  obtain⟨t,p1,h1,h2⟩:=h
  obtain⟨k,h3,h4⟩:=zoI (ztS n) _ _ _ _ _ h2
  rw[ZY] at h3
  exact (zc5 (by decide) h1).trans h4 (by simp[QV] at h3;omega)
theorem zqp {e:PM Nd} (he:Y7 T e):∀ (n:Nat) (m:Bool) (nd:Nd) (p:PS) (r:Nd) (q:PS),zfE T e n m nd p=some (r,q)→∃ k,wt r=wt nd+k∧Go1 T p q k
 | 0,_,_,_,_,_,h=>by cases h
 | n+1,m,nd,p,r,q,h=>by
  unfold zfE at h
  split at h
  ·simp only[Option.bind_eq_some_iff,Prod.exists] at h
   obtain⟨p1,h1,c,p2,h2,b,p3,h3,h4⟩:=h
   obtain⟨k,h5,h6⟩:=zqp he n _ _ _ _ _ h4
   rw[Xq] at h5
   have g2:=zdS he _ _ _ h2
   have g3:=zbV h3
   exact⟨wt c+k,by omega,(zcJ h1).trans (g2.trans (g3.trans h6 (Nat.le_refl _)) (Nat.le_refl _)) (by omega)⟩
  ·cases h;exact⟨0,by omega,.refl⟩
theorem zzz {e:PM Nd} (he:Y7 T e):Y7 T (zh5 T e):=by
 intro p nd q h
 unfold zh5 at h
 simp only[Option.bind_eq_some_iff,Prod.exists] at h
 obtain⟨t,p1,h1,b,p2,h2,h⟩:=h
 have g1:=zc5 (by decide) h1
 have g2:=zbV h2
 split at h
 ·obtain⟨k,h5,h6⟩:=zqp he _ _ _ _ _ _ h
  rw[ZY] at h5
  exact g1.trans (g2.trans h6 (Nat.le_refl _)) (by simp[QV] at h5;omega)
 ·cases h
  exact g1.trans g2 (by simp[ZY,QV];omega)
theorem zjU:∀ (n:Nat) (nd:Nd) (p:PS) (r:Nd) (q:PS),Yh T n nd p=some (r,q)→∃ k,wt r=wt nd+k∧Go1 T p q k
 | 0,_,_,_,_,h=>by cases h
 | n+1,nd,p,r,q,h=>by
  unfold Yh at h
  simp only[Option.bind_eq_some_iff] at h
  obtain⟨t,hl,h⟩:=h
  split at h
  ·rename_i hk
   simp only[Option.bind_eq_some_iff,Prod.exists] at h
   obtain⟨p1,h1,t',p2,h2,h3⟩:=h
   obtain⟨g1,g0,g2⟩:=Xh h2
   obtain⟨k,h5,h6⟩:=zjU n _ _ _ _ h3
   rw[zlo] at h5
   refine⟨t'.text.length+1+k,by omega,?_⟩
   unfold Qk at h1
   split at h1
   ·exact (zae (by decide) h1 (t'.text.length+1+k)).trans (g0.trans h6 (Nat.le_refl _)) (Nat.le_add_right _ _)
   ·cases h1
    rw[hl] at g1;cases g1
    exact (g2 (by omega)).trans h6 (by omega)
  ·cases h;exact⟨0,by omega,.refl⟩
theorem zmC {e:PM Nd} (he:Y7 T e):∀ (n:Nat) (m:Bool) (nd:Nd) (p:PS) (r:Nd) (q:PS),V4 T e n m nd p=some (r,q)→∃ k,wt r=wt nd+k∧Go1 T p q k
 | 0,_,_,_,_,_,h=>by cases h
 | n+1,m,nd,p,r,q,h=>by
  unfold V4 at h
  split at h
  ·simp only[Option.bind_eq_some_iff,Prod.exists] at h
   obtain⟨p1,h1,c,p2,h2,b,p3,h3,h4⟩:=h
   obtain⟨k,h5,h6⟩:=zmC he n _ _ _ _ _ h4
   rw[Xq] at h5
   have g2:=zzz he _ _ _ h2
   have g3:=zbV h3
   exact⟨wt c+k,by omega,(zcJ h1).trans (g2.trans (g3.trans h6 (Nat.le_refl _)) (Nat.le_refl _)) (by omega)⟩
  ·cases h;exact⟨0,by omega,.refl⟩
theorem zkr {e:PM Nd} (he:Y7 T e) {p q:PS} {nd:Nd} (h:Xs T e p=some (nd,q)):Go1 T p q (wt nd):=by
 unfold Xs at h
 simp only[Option.bind_eq_some_iff,Prod.exists] at h
 obtain⟨t0,p0,h0,t,p1,h1,n1,p2,h2,p3,h3,h4⟩:=h
 obtain⟨_,g0,_⟩:=Xh h0
 have g1:=zc5 (by decide) h1
 obtain⟨k,h5,h6⟩:=zjU _ _ _ _ _ h2
 obtain⟨j,h7,h8⟩:=zmC he _ _ _ _ _ _ h4
 rw[ZY] at h5
 exact g0.trans (g1.trans (h6.trans ((Xa h3).trans h8 (Nat.le_refl _)) (Nat.le_refl _)) (Nat.le_refl _)) (by simp[QV] at h5;omega)
theorem zlK {e:PM Nd} (he:Y7 T e):Y7 T (Y0 T e):=by
 intro p nd q h
 unfold Y0 at h
 simp only[Option.bind_eq_some_iff,Prod.exists] at h
 obtain⟨t,hl,b,p1,h1,h⟩:=h
 have g1:=zbV h1
 split at h
 ·cases h
  have hb:b=true:=by assumption
  rw[if_pos hb] at g1
  exact g1.le (by simp[ZY,QV])
 ·simp only[Option.bind_eq_some_iff] at h
  obtain⟨c,_,h⟩:=h
  split at h
  ·exact g1.trans (zmp he h) (by omega)
  ·exact g1.trans (zov (by decide) h) (by omega)
theorem zpw {e:PM Nd} (he:Y7 T e):∀ (n:Nat) (m:Bool) (nd:Nd) (p:PS) (r:Nd) (q:PS),zbM T e n m nd p=some (r,q)→∃ k,wt r=wt nd+k∧Go1 T p q k
 | 0,_,_,_,_,_,h=>by cases h
 | n+1,m,nd,p,r,q,h=>by
  unfold zbM at h
  split at h
  ·simp only[Option.bind_eq_some_iff] at h
   obtain⟨b,_,h⟩:=h
   split at h
   ·simp only[Option.bind_eq_some_iff,Prod.exists] at h
    obtain⟨p1,h1,c,p2,h2,h4⟩:=h
    obtain⟨k,h5,h6⟩:=zpw he n _ _ _ _ _ h4
    rw[Xq] at h5
    exact⟨wt c+k,by omega,(zcJ h1).trans ((zlK he _ _ _ h2).trans h6 (Nat.le_refl _)) (by omega)⟩
   ·cases h;exact⟨0,by omega,.refl⟩
  ·cases h;exact⟨0,by omega,.refl⟩
theorem zkk:∀ n,Y7 T (zk4 T n)
 | 0=>fun _ _ _ h=>by cases h
 | n+1=>by
  intro p nd q h
  unfold zk4 zjY at h
  simp only[Option.bind_eq_some_iff,Prod.exists] at h
  obtain⟨t,hl,r,p1,h1,h2⟩:=h
  obtain⟨k,h3,h4⟩:=zpw (zkk n) _ _ _ _ _ _ h2
  exact (zlK (zkk n) _ _ _ h1).trans h4 (by omega)
theorem zbT {e:PM Nd} (he:Y7 T e):Y7 T (XR T e):=by
 intro p nd q h
 unfold XR at h
 simp only[Option.map_eq_some_iff,Prod.exists,Prod.mk.injEq] at h
 obtain⟨r,p1,h1,rfl,rfl⟩:=h
 have:=zdS he _ _ _ h1
 exact fun x=>this x
theorem zjn {e pt:PM Nd} (he:Y7 T e) (hp:Y7 T pt):∀ (n:Nat) (m:Bool) (nd:Nd) (p:PS) (r:Nd) (q:PS),XS T e pt n m nd p=some (r,q)→∃ k,wt r=wt nd+k∧Go1 T p q k
 | 0,_,_,_,_,_,h=>by cases h
 | n+1,m,nd,p,r,q,h=>by
  unfold XS at h
  simp only[Option.bind_eq_some_iff] at h
  obtain⟨b,_,h⟩:=h
  split at h
  ·simp only[Option.bind_eq_some_iff,Prod.exists] at h
   obtain⟨p1,h1,p2,h2,c,p3,h3,p4,h4,d,p5,h5,h6⟩:=h
   obtain⟨k,h7,h8⟩:=zjn he hp n _ _ _ _ _ h6
   rw[zlr] at h7
   simp only[QV] at h7
   exact⟨wt c+wt d+k,by omega,(zcJ h1).trans ((Xa h2).trans ((zdS hp _ _ _ h3).trans ((Xa h4).trans ((zbT he _ _ _ h5).trans h8 (Nat.le_refl _)) (Nat.le_refl _)) (Nat.le_refl _)) (Nat.le_refl _)) (by omega)⟩
  ·cases h;exact⟨0,by omega,.refl⟩
theorem zsV {e pt:PM Nd} (he:Y7 T e) (hp:Y7 T pt):Y7 T (VX T e pt):=by
 intro p nd q h
 unfold VX at h
 simp only[Option.bind_eq_some_iff,Option.map_eq_some_iff,Prod.exists,Prod.mk.injEq] at h
 obtain⟨t,p1,h1,c,p2,h2,p3,h3,r,p4,h4,p5,h5,rfl,rfl⟩:=h
 obtain⟨_,g0,_⟩:=Xh h1
 obtain⟨k,h7,h8⟩:=zjn he hp _ _ _ _ _ _ h4
 rw[ZY] at h7
 simp only[QV,List.length_nil] at h7
 exact g0.trans ((zbT he _ _ _ h2).trans ((Xa h3).trans (h8.trans (Xa h5) (Nat.le_refl _)) (Nat.le_refl _)) (Nat.le_refl _)) (by omega)
theorem zyD {e:PM Nd} (he:Y7 T e):Y7 T (zhw T e):=by
 intro p nd q h
 unfold zhw at h
 simp only[Option.bind_eq_some_iff,Option.map_eq_some_iff,Prod.exists,Prod.mk.injEq] at h
 obtain⟨t,p1,h1,c,p2,h2,p3,h3,u,p4,h4,p5,h5,d,p6,h6,p7,h7,rfl,rfl⟩:=h
 obtain⟨_,g0,_⟩:=Xh h1
 exact g0.trans ((zbT he _ _ _ h2).trans ((Xa h3).trans ((zc5 (by decide) h4).trans ((Xa h5).trans ((zbT he _ _ _ h6).trans (Xa h7) (Nat.le_refl _)) (Nat.le_refl _)) (Nat.le_refl _)) (Nat.le_refl _)) (Nat.le_refl _)) (by simp[ZY,QV];omega)
theorem zhO {e pt:PM Nd} (he:Y7 T e) (hp:Y7 T pt):Y7 T (YU T e pt):=by
 intro p nd q h
 unfold YU at h
 simp only[Option.bind_eq_some_iff] at h
 obtain⟨t,hl,h⟩:=h
 split at h
 ·exact zsV he hp _ _ _ h
 split at h
 ·exact zyD he _ _ _ h
 split at h
 ·simp only[Option.map_eq_some_iff,Prod.exists,Prod.mk.injEq] at h
  obtain⟨t',p1,h1,rfl,rfl⟩:=h
  obtain⟨g1,_,g2⟩:=Xh h1
  rw[hl] at g1;cases g1
  exact (g2 (zfq (by assumption))).le (by simp[ZY,QV])
 split at h
 ·rename_i hb
  simp only[Option.bind_eq_some_iff,Prod.exists] at h
  obtain⟨t',p1,h1,b,p2,h2,h⟩:=h
  obtain⟨g1,_,g2⟩:=Xh h1
  rw[hl] at g1;cases g1
  have g2:=(g2 (zfq hb)).le (b:=8) (by omega)
  split at h
  ·cases h
   exact g2.trans (zbV h2) (by simp[ZY,QV];omega)
  ·simp only[Option.bind_eq_some_iff,Option.map_eq_some_iff,Prod.exists,Prod.mk.injEq] at h
   obtain⟨c,p3,h3,p4,h4,rfl,rfl⟩:=h
   exact g2.trans ((zbV h2).trans ((zbT he _ _ _ h3).trans (Xa h4) (Nat.le_refl _)) (Nat.le_refl _)) (by omega)
 ·exact (zov (by decide) h).le (by omega)
theorem zjG {e pt:PM Nd} (he:Y7 T e) (hp:Y7 T pt):∀ (n:Nat) (nd:Nd) (p:PS) (r:Nd) (q:PS),Jp T e pt n nd p=some (r,q)→∃ k,wt r=wt nd+k∧Go1 T p q k
 | 0,_,_,_,_,h=>by cases h;exact⟨0,by omega,.refl⟩
 | n+1,nd,p,r,q,h=>by
  unfold Jp at h
  simp only[Option.bind_eq_some_iff,Prod.exists] at h
  obtain⟨c,p1,h1,h2⟩:=h
  obtain⟨k,h3,h4⟩:=zjG he hp n _ _ _ _ h2
  rw[Xq] at h3
  exact⟨wt c+k,by omega,(zhO he hp _ _ _ h1).trans h4 (by omega)⟩
theorem zk8 {e pt:PM Nd} (he:Y7 T e) (hp:Y7 T pt):∀ (n:Nat) (m:Bool) (nd:Nd) (p:PS) (r:Nd) (q:PS),Vv T e pt n m nd p=some (r,q)→∃ k,wt r=wt nd+k∧Go1 T p q k
 | 0,_,_,_,_,_,h=>by cases h
 | n+1,m,nd,p,r,q,h=>by
  unfold Vv at h
  simp only[Option.bind_eq_some_iff] at h
  obtain⟨t,hl,h⟩:=h
  split at h
  ·split at h
   ·simp only[Option.bind_eq_some_iff,Prod.exists] at h
    obtain⟨p1,h1,c,p2,h2,h4⟩:=h
    obtain⟨k,h5,h6⟩:=zk8 he hp n _ _ _ _ _ h4
    rw[Xq] at h5
    exact⟨wt c+k,by omega,(zcJ h1).trans ((zhO he hp _ _ _ h2).trans h6 (Nat.le_refl _)) (by omega)⟩
   ·simp only[Option.bind_eq_some_iff,Prod.exists] at h
    obtain⟨c,p2,h2,h4⟩:=h
    obtain⟨k,h5,h6⟩:=zk8 he hp n _ _ _ _ _ h4
    rw[ZY] at h5
    simp only[QV,List.length_nil] at h5
    exact⟨wt c+1+k,by omega,(zhO he hp _ _ _ h2).trans h6 (by omega)⟩
  ·cases h;exact⟨0,by omega,.refl⟩
theorem zzp {e pt:PM Nd} (he:Y7 T e) (hp:Y7 T pt):Y7 T (zhp T e pt):=by
 intro p nd q h
 unfold zhp at h
 simp only[Option.bind_eq_some_iff] at h
 obtain⟨t,hl,h⟩:=h
 split at h
 ·rename_i hk
  simp only[Option.bind_eq_some_iff,Prod.exists] at h
  obtain⟨t',p1,h1,h2⟩:=h
  obtain⟨g1,_,g2⟩:=Xh h1
  rw[hl] at g1;cases g1
  obtain⟨k,h5,h6⟩:=zjG he hp _ _ _ _ _ h2
  rw[ZY] at h5
  simp only[QV,List.length_nil] at h5
  exact (g2 (by omega)).trans h6 (by omega)
 ·simp only[Option.bind_eq_some_iff,Prod.exists] at h
  obtain⟨c,p1,h1,h2⟩:=h
  obtain⟨k,h5,h6⟩:=zk8 he hp _ _ _ _ _ _ h2
  exact (zhO he hp _ _ _ h1).trans h6 (by omega)
theorem zl0 {part:PM Nd} (hp:Y7 T part) (signs:List Tx):∀ (n:Nat) (t:Tk) (nd:Nd) (p:PS) (r:Nd) (q:PS),zX T p=some t→za4 T part signs n t nd p=some (r,q)→∃ k,wt r=wt nd+k∧Go1 T p q k
 | 0,_,_,_,_,_,_,h=>by cases h
 | n+1,t,nd,p,r,q,hl,h=>by
  unfold za4 at h
  split at h
  ·rename_i hk
   simp only[Option.bind_eq_some_iff,Prod.exists] at h
   obtain⟨t1,p1,h1,c,p2,h2,t2,h3,h4⟩:=h
   obtain⟨g1,_,g2⟩:=Xh h1
   rw[hl] at g1;cases g1
   obtain⟨k,h5,h6⟩:=zl0 hp signs n _ _ _ _ _ h3 h4
   rw[ZY] at h5
   simp only[QV] at h5
   exact⟨wt c+1+t.text.length+k,by omega,(g2 (by omega)).trans ((hp _ _ _ h2).trans h6 (Nat.le_refl _)) (by omega)⟩
  ·cases h;exact⟨0,by omega,.refl⟩
theorem zpU {part:PM Nd} (hp:Y7 T part) (signs:List Tx):Y7 T (za9 T part signs):=by
 intro p nd q h
 unfold za9 at h
 simp only[Option.bind_eq_some_iff,Prod.exists] at h
 obtain⟨c,p1,h1,t,h2,h3⟩:=h
 obtain⟨k,h5,h6⟩:=zl0 hp signs _ _ _ _ _ _ h2 h3
 exact (hp _ _ _ h1).trans h6 (by omega)
theorem zzl {e pt:PM Nd} (he:Y7 T e) (hp:Y7 T pt):Y7 T (zhK T e pt):=by
 have hs:Y7 T (znX T e pt):=zpU (zpU (zzp he hp) _) _
 intro p nd q h
 unfold zhK at h
 simp only[Option.bind_eq_some_iff,Prod.exists] at h
 obtain⟨c,p1,h1,t,h2,h⟩:=h
 have g1:=hs _ _ _ h1
 split at h
 ·rename_i hk
  simp only[Option.bind_eq_some_iff,Option.map_eq_some_iff,Prod.exists,Prod.mk.injEq] at h
  obtain⟨t1,p2,h3,d,p3,h4,rfl,rfl⟩:=h
  obtain⟨k1,_,k2⟩:=Xh h3
  rw[h2] at k1;cases k1
  exact g1.trans ((k2 (hk.elim zfq zfq)).trans (hs _ _ _ h4) (Nat.le_refl _)) (by simp[ZY,QV];omega)
 ·cases h;exact g1
theorem zmf {e:PM Nd} (he:Y7 T e) {p q:PS} {x:Tx} {b:Bool} {v:Nd} (h:YB T e p=some ((x,b,v),q)):Go1 T p q (x.length+wt v+8):=by
 unfold YB at h
 simp only[Option.bind_eq_some_iff,Option.map_eq_some_iff,Prod.exists,Prod.mk.injEq] at h
 obtain⟨b',p1,h1,t,p2,h2,p3,h3,p4,h4,w,p5,h5,⟨rfl,rfl,rfl⟩,rfl⟩:=h
 have g4:Go1 T p3 p4 0:=by
  split at h4
  ·simp only[Option.bind_eq_some_iff] at h4
   obtain⟨c,_,h4⟩:=h4
   split at h4
   ·cases h4;exact .refl
   ·exact zae (by decide) h4 0
  ·cases h4;exact .refl
 exact (zbV h1).trans ((zc5 (by decide) h2).trans ((Xa h3).trans (g4.trans (zdS he _ _ _ h5) (Nat.le_refl _)) (Nat.le_refl _)) (Nat.le_refl _)) (by omega)
theorem zvi {e pt:PM Nd} (he:Y7 T e) (hp:Y7 T pt):Y7 T (zh2 T e pt):=by
 intro p nd q h
 unfold zh2 at h
 simp only[Option.bind_eq_some_iff] at h
 obtain⟨t,hl,h⟩:=h
 split at h
 ·unfold zkO at h
  simp only[Option.bind_eq_some_iff,Option.map_eq_some_iff,Prod.exists,Prod.mk.injEq] at h
  obtain⟨t0,p1,h1,x,b,v,p2,h2,p3,h3,c,p4,h4,rfl,rfl⟩:=h
  obtain⟨_,g0,_⟩:=Xh h1
  exact g0.trans ((zmf he h2).trans ((Xa h3).trans (zdS he _ _ _ h4) (Nat.le_refl _)) (Nat.le_refl _)) (by simp[ZY,QV];omega)
 split at h
 ·unfold zkt at h
  simp only[Option.bind_eq_some_iff,Option.map_eq_some_iff,Prod.exists,Prod.mk.injEq] at h
  obtain⟨t0,p1,h1,x,p2,h2,p3,h3,c,p4,h4,rfl,rfl⟩:=h
  obtain⟨_,g0,_⟩:=Xh h1
  exact g0.trans ((zc5 (by decide) h2).trans ((Xa h3).trans (zdS he _ _ _ h4) (Nat.le_refl _)) (Nat.le_refl _)) (by simp[ZY,QV];omega)
 split at h
 ·unfold VB at h
  simp only[Option.bind_eq_some_iff,Option.map_eq_some_iff,Prod.exists,Prod.mk.injEq] at h
  obtain⟨t0,p1,h1,c,p2,h2,p3,h3,d,p4,h4,p5,h5,f,p6,h6,rfl,rfl⟩:=h
  obtain⟨_,g0,_⟩:=Xh h1
  exact g0.trans ((zdS he _ _ _ h2).trans ((Xa h3).trans ((zdS he _ _ _ h4).trans ((Xa h5).trans (zdS he _ _ _ h6) (Nat.le_refl _)) (Nat.le_refl _)) (Nat.le_refl _)) (Nat.le_refl _)) (by simp[ZY,QV];omega)
 ·simp only[Option.bind_eq_some_iff,Prod.exists] at h
  obtain⟨c,p1,h1,b,p2,h2,h⟩:=h
  have g1:=zzl he hp _ _ _ h1
  have g2:Go1 T p1 p2 (if b=true then 8 else 0):=by
   split at h2
   ·cases h2;exact .refl
   ·exact zbV h2
  split at h
  ·rename_i hb
   have hb:b=true:=hb
   rw[if_pos hb] at g2
   simp only[Option.map_eq_some_iff,Prod.exists,Prod.mk.injEq] at h
   obtain⟨d,p3,h3,rfl,rfl⟩:=h
   exact g1.trans (g2.trans (zdS he _ _ _ h3) (Nat.le_refl _)) (by simp[ZY,QV];omega)
  ·cases h;exact g1.trans g2 (by omega)
theorem zkL:∀ n,Y7 T (zlu T n)
 | 0=>fun _ _ _ h=>by cases h
 | n+1=>zvi (zkL n) (zkk (n+1))
theorem zuP {e ty:PM Nd} (he:Y7 T e) (ht:Y7 T ty):Y7 T (zah T e ty):=by
 intro p nd q h
 unfold zah at h
 simp only[Option.bind_eq_some_iff,Option.map_eq_some_iff,Prod.exists,Prod.mk.injEq] at h
 obtain⟨b,_,c,p1,h1,p2,h2,rfl,rfl⟩:=h
 have g2:=Xa h2
 split at h1
 ·exact (zkr ht h1).trans g2 (by omega)
 ·simp only[Option.bind_eq_some_iff,Option.map_eq_some_iff,Prod.exists,Prod.mk.injEq] at h1
  obtain⟨t,p3,h3,x,b',v,p4,h4,rfl,rfl⟩:=h1
  obtain⟨_,g0,_⟩:=Xh h3
  have g4:=zmf he h4
  have g5:Go1 T p3 p4 (x.length+wt v+8):=fun z=>g4 z
  have g6:Go1 T p4 p2 8:=fun z=>g2 z
  exact g0.trans (g5.trans g6 (Nat.le_refl _)) (by simp[ZY,QV];omega)
theorem zlO {e ty:PM Nd} (he:Y7 T e) (ht:Y7 T ty):∀ (n:Nat) (nd:Nd) (p:PS) (r:Nd) (q:PS),Vo T e ty n nd p=some (r,q)→∃ k,wt r=wt nd+k∧Go1 T p q k
 | 0,_,_,_,_,h=>by cases h
 | n+1,nd,p,r,q,h=>by
  unfold Vo at h
  simp only[Option.bind_eq_some_iff] at h
  obtain⟨a,_,b,_,h⟩:=h
  split at h
  ·simp only[Option.bind_eq_some_iff,Prod.exists] at h
   obtain⟨p1,h1,c,p2,h2,h4⟩:=h
   obtain⟨k,h5,h6⟩:=zlO he ht n _ _ _ _ h4
   rw[Xq] at h5
   exact⟨wt c+k,by omega,(zcJ h1).trans ((zuP he ht _ _ _ h2).trans h6 (Nat.le_refl _)) (by omega)⟩
  ·cases h;exact⟨0,by omega,.refl⟩
theorem zuO (T:List Tk) (i N:Nat) (h:∀ t∈T,t.text.length≤N):wq T i≤T.length*(N+8):=by
 unfold wq
 have key:∀ l:List Tk,(∀ t∈l,t.text.length≤N)→(l.map fun t=>t.text.length+8).sum≤l.length*(N+8):=by
  intro l hl
  induction l with
  | nil=>simp
  | cons a r ih =>
   have h1:=ih fun t ht=>hl t (List.mem_cons_of_mem _ ht)
   have h2:=hl a List.mem_cons_self
   rw[List.map_cons,List.sum_cons,List.length_cons,Nat.add_mul];omega
 have h1:=key (T.take i) fun t ht=>h t (List.mem_of_mem_take ht)
 refine Nat.le_trans h1 (Nat.mul_le_mul_right _ ?_)
 rw[List.length_take];exact Nat.min_le_right _ _
theorem zoL {n:Nd} {a:Int} {N:Nat} (h:VP T=some (n,a,0)) (hN:∀ t∈T,t.text.length≤N):wt n≤T.length*(N+8)+1:=by
 unfold VP at h
 simp only[Option.map_eq_some_iff,Prod.exists] at h
 obtain⟨r,q,h,hr⟩:=h
 unfold zcp at h
 simp only[Option.bind_eq_some_iff,Option.map_eq_some_iff,Prod.exists,Prod.mk.injEq] at h
 obtain⟨t,k1,x,p1,k2,p2,k3,u,p3,k4,t',k5,p4,k6,rfl,rfl⟩:=h
 split at hr
 ·rename_i z
  cases hr
  obtain⟨k,h5,h6⟩:=zlO (zkL 42) (ztS 42) _ _ _ _ _ k2
  rw[ZY] at h5
  simp only[QV,List.length_nil] at h5
  have g6:Go1 T p3 p4 0:=by
   split at k6
   ·exact zae (by decide) k6 0
   ·cases k6;exact .refl
  have:=(h6.trans ((Xa k3).trans ((zdS (zkL 42) _ _ _ k4).trans g6 (Nat.le_refl _)) (Nat.le_refl _)) (Nat.le_refl _)) z
  have h8:=zuO T p4.pos N hN
  rw[Xq]
  omega
 ·rename_i z
  simp only[Prod.mk.injEq] at hr
  exact absurd hr.2.2 z
end Go.AL
