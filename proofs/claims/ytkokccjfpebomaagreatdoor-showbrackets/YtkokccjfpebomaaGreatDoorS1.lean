/- What show.Program computes, as plain functions. -/
import Derived.Test.YtkokccjfpebomaaGreatDoorP8
import Derived.Test.YtkokccjfpebomaaGreatDoorM5
set_option linter.unusedSimpArgs false
set_option linter.unusedVariables false
namespace Go.AL
def Ql:List Tx→Tx
 | []=>[]
 | [a]=>a
 | a::b::r=>a++32::Ql (b::r)
def Yj (k:Int):Tx :=
 if k=15 then [112,114,105,110,116] else if k=16 then [114,97,105,115,101] else if k=17 then [115,112,97,119,110] else if k=18 then [97,116,111,109,105,99,97,108,108,121] else if k=21 then [116,118,97,114]
 else if k=22 then [114,101,97,100] else if k=23 then [119,114,105,116,101] else if k=20 then [111,114,101,108,115,101] else []
def Ju (t:Tx):Int:=if t=[61]∨t=[60] then 5 else if t=[43]∨t=[45]∨t=[94] then 4 else 3
def JV (n:Nd):Int :=
 if n.kind=14 then 7 else if n.kind=8∨n.kind=9∨n.kind=6∨n.kind=10 then 6 else if n.kind=13 then Ju n.text
 else if n.kind=7 then 1 else if n.kind=5 then (if 0<n.kids.length then 2 else 0) else if Yj n.kind≠[] then 2 else 0
def Ze (n:Nd):Bool :=
 decide ((if n.kind=10 then 3 else if n.kind=7∨n.kind=8∨n.kind=9∨n.kind=12∨n.kind=13∨n.kind=14 then 2
  else if n.kind=6∨n.kind=11∨n.kind=28∨n.kind=29 then 1 else 0)≤n.kids.length)
def GZ:Nat→Int→Tx→Tx
 | 0,_,acc=>acc
 | k+1,n,acc=>let acc:=UInt8.ofNat (48+(Int.tmod n 10).natAbs)::acc
  if Int.tdiv n 10=0 then acc else GZ k (Int.tdiv n 10) acc
def Vd (n:Int):Int:=Int.bmod n 9223372036854775808
def KA (n:Int):Tx:=(if Vd n<0 then [45] else [])++GZ 20 (Vd n) []
def EB (c:UInt8):UInt8:=hexL.getD c.toNat 0
def QW (c:UInt8):Tx:=if Vq c then [c] else if c=10 then [92,110] else if c=34∨c=92 then [92,c] else [92,120,EB (c >>> 4),EB (c &&& 15)]
def WF (s:Tx):Tx:=34::(s.flatMap QW++[34])
section
variable (T:Nd→Int→Tx)
def zB (n:Nd) (most loose:Int):Tx:=if most<JV n∨n.kind=5∧most=1 then Ql [[40],T n 7,[41]] else T n loose
def Jt (loose:Int):Tx→List Nd→Tx
 | w,[]=>w
 | w,k::r=>Jt loose (Ql [w,zB T k 0 loose]) r
def qI (n:Nd) (i:Nat):Nd:=n.kids.getD i J9
def cS (n:Nd) (loose:Int):Tx :=
 let l:Int:=if Ju n.text=5 then 4 else Ju n.text
 let r:Int:=if Ju n.text=5 then 4 else Ju n.text-1
 Ql [zB T (qI n 0) l loose,n.text,zB T (qI n 1) r loose]
def Xw (w:Tx) (n:Nd) (loose:Int):Tx:=Ql [w,n.text,[61],zB T (qI n 0) loose loose]
def YB:Tx→List Nd→Tx
 | s,a::b::r=>YB (s++Ql [[32,124],T a 7,[45,62],zB T b 7 7]) r
 | s,_=>s
def Qw (n:Nd) (loose:Int):Tx :=
 if Ze n=false then [36] else if Yj n.kind≠[] then Jt T loose (Yj n.kind) n.kids
 else if n.kind=1 then KA n.num else if n.kind=2 then WF n.text else if n.kind=3 then [40,32,41]
 else if n.kind=4∨n.kind=5∨n.kind=27 then Jt T loose n.text n.kids
 else if n.kind=24 then [95] else if n.kind=19 then [114,101,116,114,121]
 else if n.kind=6 then Ql [[102,117,110],n.text,[45,62],zB T (qI n 0) loose loose]
 else if n.kind=7 then Ql [zB T (qI n 0) 1 loose,zB T (qI n 1) 0 loose]
 else if n.kind=8 then Ql [Xw T [108,101,116] n loose,[105,110],zB T (qI n 1) loose loose]
 else if n.kind=9 then Ql [Xw T [108,101,116,32,114,101,99] n loose,[105,110],zB T (qI n 1) loose loose]
 else if n.kind=10 then Ql [[105,102],zB T (qI n 0) loose loose,[116,104,101,110],zB T (qI n 1) loose loose,[101,108,115,101],zB T (qI n 2) loose loose]
 else if n.kind=11 then Ql [[109,97,116,99,104],zB T (qI n 0) 7 7,[119,105,116,104]]++YB T [] n.kids.tail++[32,101,110,100]
 else if n.kind=12 then Ql [[116,114,121],zB T (qI n 0) 7 7,[119,105,116,104],n.text,[45,62],zB T (qI n 1) 7 7,[101,110,100]]
 else if n.kind=13 then cS T n loose
 else if n.kind=14 then Ql [zB T (qI n 0) 5 loose,[59],zB T (qI n 1) 7 7]
 else [36]
end
def zK:Nat→Nd→Int→Tx
 | 0=>fun _ _=>[]
 | d+1=>Qw (zK d)
def XT (T:Nd→Tx):Tx→List Nd→Tx
 | s,[]=>s
 | s,k::r=>XT T (if 0<k.kids.length then Ql [s,[40],T k,[41]] else Ql [s,T k]) r
def ZU:Nat→Nd→Tx
 | 0=>fun _=>[]
 | d+1=>fun n=>XT (ZU d) n.text n.kids
def UP (T:Nd→Tx):Nat→Tx→List Nd→Tx
 | _,s,[]=>s
 | i,s,k::r=>UP T (i+1) (Ql [s,if i=0 then [111,102] else [44],T k]) r
def Ut (d:Nat) (n:Nd):Tx:=UP (ZU d) 0 n.text n.kids
def Vn (d:Nat):Nat→Tx→List Nd→Tx
 | _,s,[]=>s
 | i,s,k::r=>Vn d (i+1) (Ql [if 0<i then Ql [s,[124]] else s,Ut d k]) r
def XE (d:Nat) (n:Nd):Tx :=
 if n.kind=28∧Ze n=true then Xw (zK d) [108,101,116] n 6
 else if n.kind=29∧Ze n=true then Xw (zK d) [108,101,116,32,114,101,99] n 6
 else if n.kind≠25 then [36]
 else Vn d 0 (Ql (([[116,121,112,101],n.text]++n.names)++[[61]])) n.kids
def Yw (d:Nat):Tx→List Nd→Tx
 | s,[]=>s
 | s,k::r=>Yw d (s++Ql [XE d k,[59,32]]) r
def Q6 (d:Nat) (n:Nd):Tx:=Yw d [] n.kids.dropLast++Ql [[100,111],zB (zK d) (n.kids.getLastD J9) 7 7]
end Go.AL
namespace Go.AL
inductive Dep:Nat→Nd→Prop where
 | mk (d:Nat) (n:Nd) (h:∀ c∈n.kids,Dep d c):Dep (d+1) n
theorem Dep.kids {d:Nat} {n:Nd} (h:Dep (d+1) n):∀ c∈n.kids,Dep d c:=by cases h;assumption
theorem Dep.pos {d:Nat} {n:Nd} (h:Dep d n):∃ k,d=k+1:=by cases h;exact⟨_,rfl⟩
theorem Dep.mono {d:Nat} {n:Nd} (h:Dep d n):∀ {k:Nat},d≤k→Dep k n:=by
 induction h with
 | mk d n h ih =>
  intro k hk
  obtain⟨j,rfl⟩:∃ j,k=j+1:=⟨k-1,by omega⟩
  exact .mk _ _ fun c hc=>ih c hc (by omega)
mutual
theorem wM:∀ n:Nd,∃ d,Dep d n
 | .mk k t m a ns ks=>by
  obtain⟨d,h⟩:=uP ks
  exact⟨d+1,.mk _ _ h⟩
theorem uP:∀ l:List Nd,∃ d,∀ c∈l,Dep d c
 | []=>⟨0,fun c hc=>by cases hc⟩
 | n::r=>by
  obtain⟨d,h⟩:=wM n
  obtain⟨e,g⟩:=uP r
  refine⟨d+e,fun c hc=>?_⟩
  rcases List.mem_cons.1 hc with rfl | hc
  ·exact h.mono (Nat.le_add_right _ _)
  ·exact (g c hc).mono (Nat.le_add_left _ _)
end
theorem Bq:∀ {l r:List Nd},qf l r=true→∀ i,qz (l.getD i J9) (r.getD i J9)=true
 | [],[],_,i=>by simp;exact W8 rfl rfl rfl rfl rfl
 | [],_::_,h,_=>by simp[qf] at h
 | _::_,[],h,_=>by simp[qf] at h
 | a::l,b::r,h,i=>by
  simp only[qf,Bool.and_eq_true] at h
  cases i with
  | zero=>exact h.1
  | succ i=>simpa using Bq h.2 i
theorem VT {a b:Nd} (h:qz a b=true) (i:Nat):qz (qI a i) (qI b i)=true:=Bq (Zs h).2.2.2.2 i
theorem Hd {a b:Nd} (h:qz a b=true):a.kids.length=b.kids.length:=Y9 (Zs h).2.2.2.2
theorem vb {a b:Nd} (h:qz a b=true):JV a=JV b:=by
 have p:=Zs h
 unfold JV;rw[p.1,p.2.1,Hd h]
theorem G3 {a b:Nd} (h:qz a b=true):Ze a=Ze b:=by
 have p:=Zs h
 unfold Ze;rw[p.1,Hd h]
section
variable {T U:Nd→Int→Tx}
theorem QL (hT:∀ a b l,qz a b=true→T a l=U b l) {a b:Nd} (h:qz a b=true) (m l:Int):zB T a m l=zB U b m l:=by
 unfold zB
 rw[vb h,(Zs h).1,hT a b 7 h,hT a b l h]
theorem HF (hT:∀ a b l,qz a b=true→T a l=U b l) (lo:Int):∀ {l r:List Nd},qf l r=true→∀ w,Jt T lo w l=Jt U lo w r
 | [],[],_,w=>rfl
 | [],_::_,h,_=>by simp[qf] at h
 | _::_,[],h,_=>by simp[qf] at h
 | a::l,b::r,h,w=>by
  simp only[qf,Bool.and_eq_true] at h
  show Jt T lo _ l=Jt U lo _ r
  rw[QL hT h.1,HF hT lo h.2]
theorem BF (hT:∀ a b l,qz a b=true→T a l=U b l):∀ {l r:List Nd},qf l r=true→∀ w,YB T w l=YB U w r
 | [],[],_,w=>rfl
 | [],_::_,h,_=>by simp[qf] at h
 | _::_,[],h,_=>by simp[qf] at h
 | [a],[b],h,w=>rfl
 | [a],b::c::r,h,w=>by simp[qf] at h
 | a::c::r,[b],h,w=>by simp[qf] at h
 | a::c::l,b::d::r,h,w=>by
  simp only[qf,Bool.and_eq_true] at h
  show YB T _ l=YB U _ r
  rw[hT a b 7 h.1,QL hT h.2.1,BF hT h.2.2]
theorem wY {l r:List Nd} (h:qf l r=true):qf l.tail r.tail=true:=by
 cases l with
 | nil=>cases r with
  | nil=>rfl
  | cons b r=>simp[qf] at h
 | cons a l=>cases r with
  | nil=>simp[qf] at h
  | cons b r=>simp only[qf,Bool.and_eq_true] at h;exact h.2
theorem W9 (hT:∀ a b l,qz a b=true→T a l=U b l) {a b:Nd} (h:qz a b=true) (w:Tx) (l:Int):Xw T w a l=Xw U w b l:=by
 unfold Xw
 rw[(Zs h).2.1,QL hT (VT h 0)]
theorem cW (hT:∀ a b l,qz a b=true→T a l=U b l) {a b:Nd} (h:qz a b=true) (l:Int):cS T a l=cS U b l:=by
 unfold cS
 rw[(Zs h).2.1]
 simp only[QL hT (VT h 0),QL hT (VT h 1)]
theorem kp (hT:∀ a b l,qz a b=true→T a l=U b l) {a b:Nd} (h:qz a b=true) (l:Int):Qw T a l=Qw U b l:=by
 have p:=Zs h
 unfold Qw
 rw[G3 h,p.1,p.2.1,p.2.2.1,HF hT l p.2.2.2.2,HF hT l p.2.2.2.2,BF hT (wY p.2.2.2.2),cW hT h,W9 hT h,W9 hT h]
 simp only[QL hT (VT h 0),QL hT (VT h 1),QL hT (VT h 2)]
end
theorem He:∀ (d:Nat) {a b:Nd} (l:Int),qz a b=true→zK d a l=zK d b l
 | 0,_,_,_,_=>rfl
 | d+1,a,b,l,h=>kp (fun a b l h=>He d l h) h l
theorem Eo {T U:Nd→Tx} (hT:∀ a b,qz a b=true→T a=U b):∀ {l r:List Nd},qf l r=true→∀ w,XT T w l=XT U w r
 | [],[],_,w=>rfl
 | [],_::_,h,_=>by simp[qf] at h
 | _::_,[],h,_=>by simp[qf] at h
 | a::l,b::r,h,w=>by
  simp only[qf,Bool.and_eq_true] at h
  show XT T _ l=XT U _ r
  rw[hT a b h.1,Hd h.1,Eo hT h.2]
theorem DH:∀ (d:Nat) {a b:Nd},qz a b=true→ZU d a=ZU d b
 | 0,_,_,_=>rfl
 | d+1,a,b,h=>by
  have p:=Zs h
  show XT _ a.text a.kids=XT _ b.text b.kids
  rw[p.2.1,Eo (fun a b h=>DH d h) p.2.2.2.2]
theorem Bk {T:Nd→Tx} (hT:∀ a b,qz a b=true→T a=T b):∀ {l r:List Nd},qf l r=true→∀ i w,UP T i w l=UP T i w r
 | [],[],_,_,w=>rfl
 | [],_::_,h,_,_=>by simp[qf] at h
 | _::_,[],h,_,_=>by simp[qf] at h
 | a::l,b::r,h,i,w=>by
  simp only[qf,Bool.and_eq_true] at h
  show UP T _ _ l=UP T _ _ r
  rw[hT a b h.1,Bk hT h.2]
theorem pX (d:Nat) {a b:Nd} (h:qz a b=true):Ut d a=Ut d b:=by
 have p:=Zs h
 unfold Ut
 rw[p.2.1,Bk (fun a b h=>DH d h) p.2.2.2.2]
theorem B6 (d:Nat):∀ {l r:List Nd},qf l r=true→∀ i w,Vn d i w l=Vn d i w r
 | [],[],_,_,w=>rfl
 | [],_::_,h,_,_=>by simp[qf] at h
 | _::_,[],h,_,_=>by simp[qf] at h
 | a::l,b::r,h,i,w=>by
  simp only[qf,Bool.and_eq_true] at h
  show Vn d _ _ l=Vn d _ _ r
  rw[pX d h.1,B6 d h.2]
theorem xx (d:Nat) {a b:Nd} (h:qz a b=true):XE d a=XE d b:=by
 have p:=Zs h
 have hT:∀ (a b:Nd) (l:Int),qz a b=true→zK d a l=zK d b l:=fun a b l h=>He d l h
 unfold XE
 rw[G3 h,p.1,p.2.1,p.2.2.2.1,W9 hT h,W9 hT h,B6 d p.2.2.2.2]
theorem DL (d:Nat):∀ {l r:List Nd},qf l r=true→∀ w,Yw d w l=Yw d w r
 | [],[],_,w=>rfl
 | [],_::_,h,_=>by simp[qf] at h
 | _::_,[],h,_=>by simp[qf] at h
 | a::l,b::r,h,w=>by
  simp only[qf,Bool.and_eq_true] at h
  show Yw d _ l=Yw d _ r
  rw[xx d h.1,DL d h.2]
theorem DM:∀ {l r:List Nd},qf l r=true→qf l.dropLast r.dropLast=true∧qz (l.getLastD J9) (r.getLastD J9)=true
 | [],[],_=>⟨rfl,W8 rfl rfl rfl rfl rfl⟩
 | [],_::_,h=>by simp[qf] at h
 | _::_,[],h=>by simp[qf] at h
 | [a],[b],h=>by simp[qf] at h;exact⟨rfl,h⟩
 | [a],b::c::r,h=>by simp[qf] at h
 | a::c::r,[b],h=>by simp[qf] at h
 | a::c::l,b::d::r,h=>by
  have g:qz a b=true∧qf (c::l) (d::r)=true:=by
   simp only[qf,Bool.and_eq_true] at h ⊢;exact h
  obtain⟨x,y⟩:=DM g.2
  refine⟨?_,y⟩
  show (qz a b&&qf (c::l).dropLast (d::r).dropLast)=true
  rw[g.1,x];rfl
theorem kF (d:Nat) {a b:Nd} (h:qz a b=true):Q6 d a=Q6 d b:=by
 have p:=DM (Zs h).2.2.2.2
 have hT:∀ (a b:Nd) (l:Int),qz a b=true→zK d a l=zK d b l:=fun a b l h=>He d l h
 unfold Q6
 rw[DL d p.1,QL hT p.2]
end Go.AL
namespace Go.AL
def Yi (l:List Tx):Nat:=(l.map fun s=>s.length+1).sum
mutual
def wt:Nd→Nat
 | .mk _ t _ _ ns ks=>1+t.length+Yi ns+Xg ks
def Xg:List Nd→Nat
 | []=>0
 | n::r=>wt n+Xg r
end
theorem U3 (n:Nd):wt n=1+n.text.length+Yi n.names+Xg n.kids:=by cases n;rfl
inductive Fit:Nd→Prop where
 | mk (n:Nd) (h:∀ c∈n.kids,Fit c) (h1:n.kids.length≤100000) (h2:n.names.length≤100000) (h3:n.text.length≤100000):Fit n
theorem Fit.kids {n:Nd} (h:Fit n):(∀ c∈n.kids,Fit c)∧n.kids.length≤100000∧n.names.length≤100000∧n.text.length≤100000:=by cases h with | mk _ h h1 h2 h3=>exact⟨h,h1,h2,h3⟩
theorem uK:∀ l:List Nd,l.length≤Xg l
 | []=>Nat.le_refl _
 | n::r=>by
  have:=uK r
  have:=U3 n
  simp only[Xg,List.length_cons];omega
theorem kC (l:List Tx):l.length≤Yi l:=by
 induction l with
 | nil=>simp[Yi]
 | cons a r ih=>simp[Yi] at ih ⊢;omega
mutual
theorem pq:∀ n:Nd,wt n≤100000→Fit n
 | .mk k t m a ns ks,h=>by
  have hw:=U3 (.mk k t m a ns ks)
  have h1:=uK ks
  have h2:=kC ns
  simp only[Nd.text,Nd.names,Nd.kids] at hw
  exact .mk _ (v6 ks (by omega)) (by simp only[Nd.kids];omega) (by simp only[Nd.names];omega) (by simp only[Nd.text];omega)
theorem v6:∀ l:List Nd,Xg l≤100000→∀ c∈l,Fit c
 | [],_,c,hc=>by cases hc
 | n::r,h,c,hc=>by
  simp only[Xg] at h
  have h1:wt n≤100000:=by omega
  have h2:Xg r≤100000:=by omega
  rcases List.mem_cons.1 hc with e | hc
  ·rw[e];exact pq n h1
  ·exact v6 r h2 c hc
end
theorem Z4 (a b:Tx):(Ql [a,b]).length=a.length+b.length+1:=by simp[Ql];omega
theorem Qd (a b c:Tx):(Ql [a,b,c]).length=a.length+b.length+c.length+2:=by simp[Ql];omega
theorem Xd (a b c d:Tx):(Ql [a,b,c,d]).length=a.length+b.length+c.length+d.length+3:=by simp[Ql];omega
theorem L9 (a b c d e f:Tx):(Ql [a,b,c,d,e,f]).length=a.length+b.length+c.length+d.length+e.length+f.length+5:=by simp[Ql];omega
theorem LQ (a b c d e f g:Tx):(Ql [a,b,c,d,e,f,g]).length=a.length+b.length+c.length+d.length+e.length+f.length+g.length+6:=by simp[Ql];omega
theorem uv:∀ (k:Nat) (n:Int) (acc:Tx),(GZ k n acc).length≤k+acc.length
 | 0,_,acc=>by simp[GZ]
 | k+1,n,acc=>by
  unfold GZ
  dsimp only
  split
  ·simp;omega
  ·have:=uv k (Int.tdiv n 10) (UInt8.ofNat (48+(Int.tmod n 10).natAbs)::acc)
   rw[List.length_cons] at this;omega
theorem m8 (n:Int):(KA n).length≤21:=by
 unfold KA
 have:=uv 20 (Vd n) []
 rw[List.length_append]
 split <;> simp at this ⊢ <;> omega
theorem xv (s:Tx):(WF s).length≤2+4*s.length:=by
 have h:∀ s:Tx,(s.flatMap QW).length≤4*s.length:=by
  intro s
  induction s with
  | nil=>simp
  | cons c r ih =>
   have hc:(QW c).length≤4:=by
    unfold QW
    repeat' split
    all_goals simp
   rw[List.flatMap_cons,List.length_append,List.length_cons];omega
 have:=h s
 unfold WF
 simp only[List.length_cons,List.length_append,List.length_nil]
 omega
theorem bD (k:Int):(Yj k).length≤10:=by
 unfold Yj
 repeat' split
 all_goals simp
section
variable {T:Nd→Int→Tx}
def TB (T:Nd→Int→Tx):Prop:=∀ n l,(T n l).length+20≤60*wt n
theorem Y1 (hT:TB T) (n:Nd) (m l:Int):(zB T n m l).length+16≤60*wt n:=by
 have h7:=hT n 7
 have hl:=hT n l
 unfold zB
 split
 ·rw[Qd];simp only[List.length_cons,List.length_nil];omega
 ·omega
theorem DK (hT:TB T) (l:Int):∀ (ks:List Nd) (w:Tx),(Jt T l w ks).length≤w.length+60*Xg ks
 | [],w=>by simp[Jt,Xg]
 | k::r,w=>by
  have h:=DK hT l r (Ql [w,zB T k 0 l])
  have:=Y1 hT k 0 l
  rw[Z4] at h
  show (Jt T l _ r).length≤_+60*(wt k+Xg r)
  omega
theorem jz (hT:TB T):∀ (ks:List Nd) (w:Tx),(YB T w ks).length≤w.length+60*Xg ks
 | [],w=>by simp[YB,Xg]
 | [a],w=>by simp[YB,Xg]
 | a::b::r,w=>by
  have h:=jz hT r (w++Ql [[32,124],T a 7,[45,62],zB T b 7 7])
  have h1:=hT a 7
  have h2:=Y1 hT b 7 7
  rw[List.length_append,Xd] at h
  simp only[List.length_cons,List.length_nil] at h
  show (YB T _ r).length≤_+60*(wt a+(wt b+Xg r))
  omega
theorem GD {n:Nd} (h:1≤n.kids.length):wt (qI n 0)≤Xg n.kids:=by
 unfold qI
 match n.kids,h with
 | a::r,_=>exact Nat.le_add_right _ _
theorem VR {n:Nd} (h:2≤n.kids.length):wt (qI n 0)+wt (qI n 1)≤Xg n.kids:=by
 unfold qI
 match n.kids,h with
 | a::b::r,_=>simp only[Xg,List.getD_cons_zero,List.getD_cons_succ];omega
theorem pH {n:Nd} (h:3≤n.kids.length):wt (qI n 0)+wt (qI n 1)+wt (qI n 2)≤Xg n.kids:=by
 unfold qI
 match n.kids,h with
 | a::b::c::r,_=>simp only[Xg,List.getD_cons_zero,List.getD_cons_succ];omega
theorem gj {n:Nd} (h:1≤n.kids.length):wt (qI n 0)+Xg n.kids.tail≤Xg n.kids:=by
 unfold qI
 match n.kids,h with
 | a::r,_=>simp[Xg]
theorem xy (hT:TB T):TB (Qw T):=by
 intro n l
 have hw:=U3 n
 have W:=fun k m l=>Y1 hT k m l
 have hk:=bD n.kind
 unfold Qw
 by_cases c:Ze n=false
 ·rw[if_pos c]
  simp only[List.length_cons,List.length_nil];omega
 rw[if_neg c]
 have hm:Ze n=true:=by simpa using c
 unfold Ze at hm
 by_cases c:Yj n.kind≠[]
 ·rw[if_pos c]
  have:=DK hT l n.kids (Yj n.kind);omega
 rw[if_neg c]
 clear c
 by_cases c:n.kind=1
 ·rw[if_pos c]
  have:=m8 n.num;omega
 rw[if_neg c]
 clear c
 by_cases c:n.kind=2
 ·rw[if_pos c]
  have:=xv n.text;omega
 rw[if_neg c]
 clear c
 by_cases c:n.kind=3
 ·rw[if_pos c]
  simp only[List.length_cons,List.length_nil];omega
 rw[if_neg c]
 clear c
 by_cases c:n.kind=4∨n.kind=5∨n.kind=27
 ·rw[if_pos c]
  have:=DK hT l n.kids n.text;omega
 rw[if_neg c]
 clear c
 by_cases c:n.kind=24
 ·rw[if_pos c]
  simp only[List.length_cons,List.length_nil];omega
 rw[if_neg c]
 clear c
 by_cases c:n.kind=19
 ·rw[if_pos c]
  simp only[List.length_cons,List.length_nil];omega
 rw[if_neg c]
 clear c
 by_cases c:n.kind=6
 ·rw[if_pos c]
  simp only[c] at hm
  have:=GD (n:=n) (by simpa using hm)
  have:=W (qI n 0) l l
  rw[Xd];simp only[List.length_cons,List.length_nil];omega
 rw[if_neg c]
 clear c
 by_cases c:n.kind=7
 ·rw[if_pos c]
  simp only[c] at hm
  have:=VR (n:=n) (by simpa using hm)
  have:=W (qI n 0) 1 l
  have:=W (qI n 1) 0 l
  rw[Z4];omega
 rw[if_neg c]
 clear c
 by_cases c:n.kind=8
 ·rw[if_pos c]
  simp only[c] at hm
  have:=VR (n:=n) (by simpa using hm)
  have:=W (qI n 0) l l
  have:=W (qI n 1) l l
  unfold Xw
  rw[Qd,Xd];simp only[List.length_cons,List.length_nil];omega
 rw[if_neg c]
 clear c
 by_cases c:n.kind=9
 ·rw[if_pos c]
  simp only[c] at hm
  have:=VR (n:=n) (by simpa using hm)
  have:=W (qI n 0) l l
  have:=W (qI n 1) l l
  unfold Xw
  rw[Qd,Xd];simp only[List.length_cons,List.length_nil];omega
 rw[if_neg c]
 clear c
 by_cases c:n.kind=10
 ·rw[if_pos c]
  simp only[c] at hm
  have:=pH (n:=n) (by simpa using hm)
  have:=W (qI n 0) l l
  have:=W (qI n 1) l l
  have:=W (qI n 2) l l
  rw[L9];simp only[List.length_cons,List.length_nil];omega
 rw[if_neg c]
 clear c
 by_cases c:n.kind=11
 ·rw[if_pos c]
  simp only[c] at hm
  have:=gj (n:=n) (by simpa using hm)
  have:=W (qI n 0) 7 7
  have:=jz hT n.kids.tail []
  rw[List.length_append,List.length_append,Qd];simp only[List.length_cons,List.length_nil] at this ⊢;omega
 rw[if_neg c]
 clear c
 by_cases c:n.kind=12
 ·rw[if_pos c]
  simp only[c] at hm
  have:=VR (n:=n) (by simpa using hm)
  have:=W (qI n 0) 7 7
  have:=W (qI n 1) 7 7
  rw[LQ];simp only[List.length_cons,List.length_nil];omega
 rw[if_neg c]
 clear c
 by_cases c:n.kind=13
 ·rw[if_pos c]
  simp only[c] at hm
  have:=VR (n:=n) (by simpa using hm)
  have:=W (qI n 0) (if Ju n.text=5 then 4 else Ju n.text) l
  have:=W (qI n 1) (if Ju n.text=5 then 4 else Ju n.text-1) l
  unfold cS
  dsimp only
  rw[Qd];omega
 rw[if_neg c]
 clear c
 by_cases c:n.kind=14
 ·rw[if_pos c]
  simp only[c] at hm
  have:=VR (n:=n) (by simpa using hm)
  have:=W (qI n 0) 5 l
  have:=W (qI n 1) 7 7
  rw[Qd];simp only[List.length_cons,List.length_nil];omega
 rw[if_neg c]
 clear c
 simp only[List.length_cons,List.length_nil];omega
end
theorem UU:∀ d,TB (zK d)
 | 0=>fun n l=>by have:=U3 n;simp[zK];omega
 | d+1=>xy (UU d)
theorem Gw {T:Nd→Tx} (hT:∀ n,(T n).length+20≤60*wt n):∀ (ks:List Nd) (w:Tx),(XT T w ks).length≤w.length+60*Xg ks
 | [],w=>by simp[XT,Xg]
 | k::r,w=>by
  have h1:=hT k
  have h:=Gw hT r (if 0<k.kids.length then Ql [w,[40],T k,[41]] else Ql [w,T k])
  show (XT T _ r).length≤_+60*(wt k+Xg r)
  split at h
  ·rw[Xd] at h;simp only[List.length_cons,List.length_nil] at h;rw[if_pos (by assumption)];omega
  ·rw[Z4] at h;rw[if_neg (by assumption)];omega
theorem G1:∀ d n,(ZU d n).length+20≤60*wt n
 | 0,n=>by have:=U3 n;simp[ZU];omega
 | d+1,n=>by
  have:=Gw (G1 d) n.kids n.text
  have:=U3 n
  show (XT (ZU d) n.text n.kids).length+20≤_
  omega
theorem jC {T:Nd→Tx} (hT:∀ n,(T n).length+20≤60*wt n):∀ (ks:List Nd) (i:Nat) (w:Tx),(UP T i w ks).length≤w.length+60*Xg ks
 | [],_,w=>by simp[UP,Xg]
 | k::r,i,w=>by
  have h1:=hT k
  have h:=jC hT r (i+1) (Ql [w,if i=0 then [111,102] else [44],T k])
  have h2:(if i=0 then [111,102] else [44]:Tx).length≤2:=by split <;> simp
  show (UP T _ _ r).length≤_+60*(wt k+Xg r)
  rw[Qd] at h
  omega
theorem bi (d:Nat) (n:Nd):(Ut d n).length+20≤60*wt n:=by
 have:=jC (G1 d) n.kids 0 n.text
 have:=U3 n
 unfold Ut
 omega
theorem LW (d:Nat):∀ (ks:List Nd) (i:Nat) (w:Tx),(Vn d i w ks).length≤w.length+60*Xg ks
 | [],_,w=>by simp[Vn,Xg]
 | k::r,i,w=>by
  have h1:=bi d k
  have h:=LW d r (i+1) (Ql [if 0<i then Ql [w,[124]] else w,Ut d k])
  have h2:(if 0<i then Ql [w,[124]] else w:Tx).length≤w.length+2:=by split <;> simp[Z4]
  show (Vn d _ _ r).length≤_+60*(wt k+Xg r)
  rw[Z4] at h
  omega
theorem Fa:∀ (l:List Tx) (z:Tx),(Ql (l++[z])).length=Yi l+z.length
 | [],z=>by simp[Ql,Yi]
 | [a],z=>by simp[Ql,Yi];omega
 | a::b::r,z=>by
  have:=Fa (b::r) z
  show (a++32::Ql (b::r++[z])).length=_
  rw[List.length_append,List.length_cons,this]
  simp[Yi];omega
theorem mb (d:Nat) (n:Nd):(XE d n).length+20≤60*wt n:=by
 have hw:=U3 n
 unfold XE
 split
 ·rename_i h
  have hm:=h.2
  unfold Ze at hm
  simp only[h.1] at hm
  have:=GD (n:=n) (by simpa using hm)
  have:=Y1 (UU d) (qI n 0) 6 6
  unfold Xw
  rw[Xd];simp only[List.length_cons,List.length_nil];omega
 split
 ·rename_i h
  have hm:=h.2
  unfold Ze at hm
  simp only[h.1] at hm
  have:=GD (n:=n) (by simpa using hm)
  have:=Y1 (UU d) (qI n 0) 6 6
  unfold Xw
  rw[Xd];simp only[List.length_cons,List.length_nil];omega
 split
 ·simp only[List.length_cons,List.length_nil];omega
 ·have:=LW d n.kids 0 (Ql (([[116,121,112,101],n.text]++n.names)++[[61]]))
  rw[Fa] at this
  simp[Yi] at this
  simp[Yi] at hw
  simp
  omega
theorem Fb (d:Nat):∀ (ks:List Nd) (w:Tx),(Yw d w ks).length≤w.length+60*Xg ks
 | [],w=>by simp[Yw,Xg]
 | k::r,w=>by
  have h1:=mb d k
  have h:=Fb d r (w++Ql [XE d k,[59,32]])
  show (Yw d _ r).length≤_+60*(wt k+Xg r)
  rw[List.length_append,Z4] at h
  simp only[List.length_cons,List.length_nil] at h
  omega
theorem js:∀ l:List Nd,Xg l.dropLast+wt (l.getLastD J9)≤Xg l+1
 | []=>by simp[Xg,J9,wt,Yi]
 | [a]=>by simp[Xg]
 | a::b::r=>by
  have:=js (b::r)
  show wt a+Xg (b::r).dropLast+wt ((b::r).getLastD J9)≤wt a+Xg (b::r)+1
  omega
theorem uX (d:Nat) (n:Nd):(Q6 d n).length≤60*wt n+60:=by
 have h1:=Fb d n.kids.dropLast []
 have h2:=Y1 (UU d) (n.kids.getLastD J9) 7 7
 have h3:=js n.kids
 have hw:=U3 n
 unfold Q6
 rw[List.length_append,Z4]
 simp only[List.length_cons,List.length_nil] at h1 ⊢
 omega
end Go.AL
namespace Go.AL
def wq (T:List Tk) (i:Nat):Nat:=((T.take i).map fun t=>t.text.length+8).sum
theorem df (T:List Tk) {i j:Nat} (h:i≤j):wq T i≤wq T j:=by
 unfold wq
 obtain⟨k,rfl⟩:=Nat.exists_eq_add_of_le h
 rw[List.take_add,List.map_append,List.sum_append]
 exact Nat.le_add_right _ _
theorem dy {T:List Tk} {i:Nat} {t:Tk} (h:T[i]?=some t):wq T (i+1)=wq T i+t.text.length+8:=by
 unfold wq
 rw[List.take_add_one,h];simp;omega
theorem XK (n c:Nd):wt (n.addKid c)=wt n+wt c:=by
 have happ:∀ l r:List Nd,Xg (l++r)=Xg l+Xg r:=by
  intro l r
  induction l with
  | nil=>simp[Xg]
  | cons a l ih=>simp[Xg,ih];omega
 cases n;simp[Nd.addKid,wt,happ,Xg];omega
theorem bI (l r:List Nd):Xg (l++r)=Xg l+Xg r:=by
 induction l with
 | nil=>simp[Xg]
 | cons a l ih=>simp[Xg,ih];omega
theorem ve (n:Nd) (l:List Nd):wt (n.addKids l)=wt n+Xg l:=by
 cases n;simp[Nd.addKids,wt,bI];omega
theorem kx (n:Nd) (s:Tx):wt (n.addName s)=wt n+s.length+1:=by
 cases n;simp[Nd.addName,wt,Yi];omega
theorem Z' (k a:Int) (t:Tx) (l:List Nd):wt (zT k a t l)=1+t.length+Xg l:=by simp[zT,wt,Yi]
variable {T:List Tk}
def Go1 (T:List Tk) (p q:PS) (n:Nat):Prop:=q.e=0→p.e=0∧n+wq T p.pos≤wq T q.pos
theorem Go1.refl {p:PS}:Go1 T p p 0:=fun h=>⟨h,by omega⟩
theorem Go1.trans {p q r:PS} {a b c:Nat} (x:Go1 T p q a) (y:Go1 T q r b) (h:c≤a+b):Go1 T p r c:=fun hr=>by
 obtain⟨h1,h2⟩:=y hr
 obtain⟨h3,h4⟩:=x h1
 exact⟨h3,by omega⟩
theorem Go1.le {p q:PS} {a b:Nat} (x:Go1 T p q a) (h:b≤a):Go1 T p q b:=fun hr=>by
 obtain⟨h3,h4⟩:=x hr
 exact⟨h3,by omega⟩
def Jw (T:List Tk) (e:PM Nd):Prop:=∀ p nd q,e p=some (nd,q)→Go1 T p q (wt nd+1)
theorem WO {p q:PS} {e:Int} (he:e≠0) (h:Za T e p=some q) (n:Nat):Go1 T p q n:=by
 unfold Za at h
 split at h
 ·simp only[Option.map_eq_some_iff] at h
  obtain⟨t,_,rfl⟩:=h
  exact fun x=>absurd x he
 ·cases h;rename_i hp;exact fun x=>absurd x hp
theorem ol {p:PS} {t:Tk} (h:zR T p=some t):(p.e=0∧T[p.pos]?=some t)∨(p.e≠0∧t=xB):=by
 unfold zR at h
 split at h
 ·exact .inl ⟨by assumption,h⟩
 ·cases h;exact .inr ⟨by assumption,rfl⟩
theorem Xy {p q:PS} {t:Tk} (h:ZM T p=some (t,q)):zR T p=some t∧Go1 T p q 0∧(t.kind≠0→Go1 T p q (t.text.length+8)):=by
 unfold ZM at h
 simp only[Option.map_eq_some_iff,Prod.mk.injEq] at h
 obtain⟨t',hl,rfl,rfl⟩:=h
 refine⟨hl,?_,fun hk=>?_⟩
 ·split
  ·exact fun x=>⟨x,by have:=df T (Nat.le_succ p.pos);simpa using this⟩
  ·exact .refl
 ·rcases ol hl with⟨h1,h2⟩ | ⟨h1,rfl⟩
  ·rw[if_pos ⟨h1,hk⟩]
   exact fun x=>⟨h1,by have:=dy h2;show _≤wq T (p.pos+1);omega⟩
  ·exact absurd rfl hk
theorem DJ {t:Tk} {s:Tx} (h:isT t s=true):t.kind≠0:=by
 unfold isT at h
 simp only[Bool.and_eq_true,Bool.or_eq_true,beq_iff_eq] at h
 omega
theorem U5 {p q:PS} {s:Tx} {b:Bool} (h:Xx T s p=some (b,q)):Go1 T p q (if b=true then 8 else 0):=by
 unfold Xx Jn at h
 simp only[Option.bind_eq_some_iff,Option.map_eq_some_iff] at h
 obtain⟨c,⟨t,hl,rfl⟩,h⟩:=h
 split at h
 ·simp only[Option.map_eq_some_iff,Prod.mk.injEq] at h
  obtain⟨⟨t',q'⟩,h2,rfl,rfl⟩:=h
  obtain⟨g1,_,g2⟩:=Xy h2
  rw[hl] at g1;cases g1
  exact (g2 (DJ (by assumption))).le (by simp)
 ·cases h;exact .refl
theorem Xm {p q:PS} {s:Tx} (h:qJ T s p=some q):Go1 T p q 8:=by
 unfold qJ at h
 simp only[Option.bind_eq_some_iff,Prod.exists] at h
 obtain⟨b,q',h1,h2⟩:=h
 have:=U5 h1
 split at h2
 ·cases h2
  have hb:b=true:=by assumption
  rw[if_pos hb] at this;exact this
 ·exact this.trans (WO (by decide) h2 8) (by omega)
theorem HG {p q:PS} {k:Int} {t:Tk} (hk:k≠0) (h:XV T k p=some (t,q)):Go1 T p q (t.text.length+8):=by
 unfold XV at h
 simp only[Option.bind_eq_some_iff] at h
 obtain⟨t1,hl,p1,h1,h2⟩:=h
 obtain⟨g1,g0,g2⟩:=Xy h2
 split at h1
 ·exact (WO (by decide) h1 _).trans g0 (Nat.le_refl _)
 ·cases h1
  rw[hl] at g1;cases g1
  exact g2 (by rename_i x;have:=Classical.not_not.1 x;omega)
theorem Hj {p q:PS} {n m:Int} (h:Z8 T n m p=some q):Go1 T p q 0:=by
 unfold Z8 at h
 split at h
 ·exact WO (by decide) h 0
 ·cases h;exact .refl
theorem EC {e:PM Nd} (he:Jw T e):Jw T (X9 T e):=by
 intro p nd q h
 unfold X9 at h
 simp only[Option.bind_eq_some_iff] at h
 obtain⟨p1,h1,h⟩:=h
 have g1:Go1 T p p1 0:=by
  split at h1
  ·exact WO (by decide) h1 0
  ·cases h1;exact .refl
 split at h
 ·cases h;rename_i x;exact fun y=>absurd y x
 ·simp only[Option.bind_eq_some_iff,Prod.exists] at h
  obtain⟨r,p2,h2,h3⟩:=h
  split at h3
  ·cases h3
  ·cases h3
   have:=he _ _ _ h2
   exact g1.trans (q:=p1) (fun x=>this x) (by omega)
theorem uS {e:PM Nd} (he:Jw T e) {p q:PS} {nd:Nd} (h:YW T e p=some (nd,q)):Go1 T p q (wt nd+8):=by
 unfold YW at h
 simp only[Option.bind_eq_some_iff,Option.map_eq_some_iff,Prod.exists,Prod.mk.injEq] at h
 obtain⟨p1,h1,r,p2,h2,p3,h3,rfl,rfl⟩:=h
 exact (Xm h1).trans (((EC he) _ _ _ h2).trans (Xm h3) (Nat.le_refl _)) (by omega)
theorem pD {kinds:List (Int×Int)} (hk:∀ q∈kinds,q.1≠0) {p q:PS} {nd:Nd} (h:Xs T kinds p=some (nd,q)):Go1 T p q (wt nd+7):=by
 unfold Xs at h
 simp only[Option.bind_eq_some_iff] at h
 obtain⟨t,hl,h⟩:=h
 split at h
 ·simp only[Option.map_eq_some_iff,Prod.mk.injEq] at h
  obtain⟨q',h1,rfl,rfl⟩:=h
  exact WO (by decide) h1 _
 ·simp only[Option.map_eq_some_iff,Prod.mk.injEq,Prod.exists] at h
  obtain⟨t',q',h1,rfl,rfl⟩:=h
  rename_i hne
  have hk0:t.kind≠0:=by
   cases hf:kinds.find? fun q=>q.1==t.kind with
   | none=>rw[hf] at hne;exact absurd rfl hne
   | some y =>
    have h1:=List.find?_some hf
    have h2:=hk y (List.mem_of_find?_eq_some hf)
    have h1:y.1=t.kind:=by simpa using h1
    omega
  obtain⟨g1,_,g2⟩:=Xy h1
  rw[hl] at g1;cases g1
  exact (g2 hk0).le (by simp[wt,Yi,Xg];omega)
theorem ml {e:PM Nd} (he:Jw T e):∀ (n:Nat) (nd:Nd) (p:PS) (r:Nd) (q:PS),gF T e n nd p=some (r,q)→∃ k,wt r=wt nd+k∧Go1 T p q k
 | 0,_,_,_,_,h=>by cases h
 | n+1,nd,p,r,q,h=>by
  unfold gF at h
  simp only[Option.bind_eq_some_iff] at h
  obtain⟨t,hl,h⟩:=h
  split at h
  ·simp only[Option.bind_eq_some_iff,Prod.exists] at h
   obtain⟨t',p1,h1,h2⟩:=h
   obtain⟨g1,_,g2⟩:=Xy h1
   rw[hl] at g1;cases g1
   obtain⟨k,h3,h4⟩:=ml he n _ _ _ _ h2
   rw[XK,Z'] at h3
   exact⟨1+t.text.length+k,by simp[Xg] at h3;omega,(g2 (by omega)).trans h4 (by omega)⟩
  ·simp only[Option.bind_eq_some_iff] at h
   obtain⟨b,_,h⟩:=h
   split at h
   ·simp only[Option.bind_eq_some_iff,Prod.exists] at h
    obtain⟨c,p1,h1,h2⟩:=h
    have:=uS he h1
    obtain⟨k,h3,h4⟩:=ml he n _ _ _ _ h2
    rw[XK] at h3
    exact⟨wt c+k,by omega,this.trans h4 (by omega)⟩
   ·cases h;exact⟨0,by omega,.refl⟩
theorem tE:∀ n,Jw T (bU T n)
 | 0=>fun _ _ _ h=>by cases h
 | n+1=>by
  intro p nd q h
  unfold bU b7 at h
  simp only[Option.bind_eq_some_iff,Prod.exists] at h
  obtain⟨t,p1,h1,h2⟩:=h
  obtain⟨k,h3,h4⟩:=ml (tE n) _ _ _ _ _ h2
  rw[Z'] at h3
  exact (HG (by decide) h1).trans h4 (by simp[Xg] at h3;omega)
theorem gR {e:PM Nd} (he:Jw T e):∀ (n:Nat) (m:Bool) (nd:Nd) (p:PS) (r:Nd) (q:PS),GX T e n m nd p=some (r,q)→∃ k,wt r=wt nd+k∧Go1 T p q k
 | 0,_,_,_,_,_,h=>by cases h
 | n+1,m,nd,p,r,q,h=>by
  unfold GX at h
  split at h
  ·simp only[Option.bind_eq_some_iff,Prod.exists] at h
   obtain⟨p1,h1,c,p2,h2,b,p3,h3,h4⟩:=h
   obtain⟨k,h5,h6⟩:=gR he n _ _ _ _ _ h4
   rw[XK] at h5
   have g2:=EC he _ _ _ h2
   have g3:=U5 h3
   exact⟨wt c+k,by omega,(Hj h1).trans (g2.trans (g3.trans h6 (Nat.le_refl _)) (Nat.le_refl _)) (by omega)⟩
  ·cases h;exact⟨0,by omega,.refl⟩
theorem aX {e:PM Nd} (he:Jw T e):Jw T (FI T e):=by
 intro p nd q h
 unfold FI at h
 simp only[Option.bind_eq_some_iff,Prod.exists] at h
 obtain⟨t,p1,h1,b,p2,h2,h⟩:=h
 have g1:=HG (by decide) h1
 have g2:=U5 h2
 split at h
 ·obtain⟨k,h5,h6⟩:=gR he _ _ _ _ _ _ h
  rw[Z'] at h5
  exact g1.trans (g2.trans h6 (Nat.le_refl _)) (by simp[Xg] at h5;omega)
 ·cases h
  exact g1.trans g2 (by simp[Z',Xg];omega)
theorem jZ:∀ (n:Nat) (nd:Nd) (p:PS) (r:Nd) (q:PS),Yx T n nd p=some (r,q)→∃ k,wt r=wt nd+k∧Go1 T p q k
 | 0,_,_,_,_,h=>by cases h
 | n+1,nd,p,r,q,h=>by
  unfold Yx at h
  simp only[Option.bind_eq_some_iff] at h
  obtain⟨t,hl,h⟩:=h
  split at h
  ·rename_i hk
   simp only[Option.bind_eq_some_iff,Prod.exists] at h
   obtain⟨p1,h1,t',p2,h2,h3⟩:=h
   obtain⟨g1,g0,g2⟩:=Xy h2
   obtain⟨k,h5,h6⟩:=jZ n _ _ _ _ h3
   rw[kx] at h5
   refine⟨t'.text.length+1+k,by omega,?_⟩
   unfold Z8 at h1
   split at h1
   ·exact (WO (by decide) h1 (t'.text.length+1+k)).trans (g0.trans h6 (Nat.le_refl _)) (Nat.le_add_right _ _)
   ·cases h1
    rw[hl] at g1;cases g1
    exact (g2 (by omega)).trans h6 (by omega)
  ·cases h;exact⟨0,by omega,.refl⟩
theorem uM {e:PM Nd} (he:Jw T e):∀ (n:Nat) (m:Bool) (nd:Nd) (p:PS) (r:Nd) (q:PS),Wv T e n m nd p=some (r,q)→∃ k,wt r=wt nd+k∧Go1 T p q k
 | 0,_,_,_,_,_,h=>by cases h
 | n+1,m,nd,p,r,q,h=>by
  unfold Wv at h
  split at h
  ·simp only[Option.bind_eq_some_iff,Prod.exists] at h
   obtain⟨p1,h1,c,p2,h2,b,p3,h3,h4⟩:=h
   obtain⟨k,h5,h6⟩:=uM he n _ _ _ _ _ h4
   rw[XK] at h5
   have g2:=aX he _ _ _ h2
   have g3:=U5 h3
   exact⟨wt c+k,by omega,(Hj h1).trans (g2.trans (g3.trans h6 (Nat.le_refl _)) (Nat.le_refl _)) (by omega)⟩
  ·cases h;exact⟨0,by omega,.refl⟩
theorem kP {e:PM Nd} (he:Jw T e) {p q:PS} {nd:Nd} (h:XP T e p=some (nd,q)):Go1 T p q (wt nd):=by
 unfold XP at h
 simp only[Option.bind_eq_some_iff,Prod.exists] at h
 obtain⟨t0,p0,h0,t,p1,h1,n1,p2,h2,p3,h3,h4⟩:=h
 obtain⟨_,g0,_⟩:=Xy h0
 have g1:=HG (by decide) h1
 obtain⟨k,h5,h6⟩:=jZ _ _ _ _ _ h2
 obtain⟨j,h7,h8⟩:=uM he _ _ _ _ _ _ h4
 rw[Z'] at h5
 exact g0.trans (g1.trans (h6.trans ((Xm h3).trans h8 (Nat.le_refl _)) (Nat.le_refl _)) (Nat.le_refl _)) (by simp[Xg] at h5;omega)
theorem uJ {e:PM Nd} (he:Jw T e):Jw T (Yf T e):=by
 intro p nd q h
 unfold Yf at h
 simp only[Option.bind_eq_some_iff,Prod.exists] at h
 obtain⟨t,hl,b,p1,h1,h⟩:=h
 have g1:=U5 h1
 split at h
 ·cases h
  have hb:b=true:=by assumption
  rw[if_pos hb] at g1
  exact g1.le (by simp[Z',Xg])
 ·simp only[Option.bind_eq_some_iff] at h
  obtain⟨c,_,h⟩:=h
  split at h
  ·exact g1.trans (uS he h) (by omega)
  ·exact g1.trans (pD (by decide) h) (by omega)
theorem mL {e:PM Nd} (he:Jw T e):∀ (n:Nat) (m:Bool) (nd:Nd) (p:PS) (r:Nd) (q:PS),WY T e n m nd p=some (r,q)→∃ k,wt r=wt nd+k∧Go1 T p q k
 | 0,_,_,_,_,_,h=>by cases h
 | n+1,m,nd,p,r,q,h=>by
  unfold WY at h
  split at h
  ·simp only[Option.bind_eq_some_iff] at h
   obtain⟨b,_,h⟩:=h
   split at h
   ·simp only[Option.bind_eq_some_iff,Prod.exists] at h
    obtain⟨p1,h1,c,p2,h2,h4⟩:=h
    obtain⟨k,h5,h6⟩:=mL he n _ _ _ _ _ h4
    rw[XK] at h5
    exact⟨wt c+k,by omega,(Hj h1).trans ((uJ he _ _ _ h2).trans h6 (Nat.le_refl _)) (by omega)⟩
   ·cases h;exact⟨0,by omega,.refl⟩
  ·cases h;exact⟨0,by omega,.refl⟩
theorem vh:∀ n,Jw T (Df T n)
 | 0=>fun _ _ _ h=>by cases h
 | n+1=>by
  intro p nd q h
  unfold Df Do at h
  simp only[Option.bind_eq_some_iff,Prod.exists] at h
  obtain⟨t,hl,r,p1,h1,h2⟩:=h
  obtain⟨k,h3,h4⟩:=mL (vh n) _ _ _ _ _ _ h2
  exact (uJ (vh n) _ _ _ h1).trans h4 (by omega)
theorem Um {e:PM Nd} (he:Jw T e):Jw T (Q7 T e):=by
 intro p nd q h
 unfold Q7 at h
 simp only[Option.map_eq_some_iff,Prod.exists,Prod.mk.injEq] at h
 obtain⟨r,p1,h1,rfl,rfl⟩:=h
 have:=EC he _ _ _ h1
 exact fun x=>this x
theorem LF {e pt:PM Nd} (he:Jw T e) (hp:Jw T pt):∀ (n:Nat) (m:Bool) (nd:Nd) (p:PS) (r:Nd) (q:PS),XF T e pt n m nd p=some (r,q)→∃ k,wt r=wt nd+k∧Go1 T p q k
 | 0,_,_,_,_,_,h=>by cases h
 | n+1,m,nd,p,r,q,h=>by
  unfold XF at h
  simp only[Option.bind_eq_some_iff] at h
  obtain⟨b,_,h⟩:=h
  split at h
  ·simp only[Option.bind_eq_some_iff,Prod.exists] at h
   obtain⟨p1,h1,p2,h2,c,p3,h3,p4,h4,d,p5,h5,h6⟩:=h
   obtain⟨k,h7,h8⟩:=LF he hp n _ _ _ _ _ h6
   rw[ve] at h7
   simp only[Xg] at h7
   exact⟨wt c+wt d+k,by omega,(Hj h1).trans ((Xm h2).trans ((EC hp _ _ _ h3).trans ((Xm h4).trans ((Um he _ _ _ h5).trans h8 (Nat.le_refl _)) (Nat.le_refl _)) (Nat.le_refl _)) (Nat.le_refl _)) (by omega)⟩
  ·cases h;exact⟨0,by omega,.refl⟩
theorem cR {e pt:PM Nd} (he:Jw T e) (hp:Jw T pt):Jw T (Jr T e pt):=by
 intro p nd q h
 unfold Jr at h
 simp only[Option.bind_eq_some_iff,Option.map_eq_some_iff,Prod.exists,Prod.mk.injEq] at h
 obtain⟨t,p1,h1,c,p2,h2,p3,h3,r,p4,h4,p5,h5,rfl,rfl⟩:=h
 obtain⟨_,g0,_⟩:=Xy h1
 obtain⟨k,h7,h8⟩:=LF he hp _ _ _ _ _ _ h4
 rw[Z'] at h7
 simp only[Xg,List.length_nil] at h7
 exact g0.trans ((Um he _ _ _ h2).trans ((Xm h3).trans (h8.trans (Xm h5) (Nat.le_refl _)) (Nat.le_refl _)) (Nat.le_refl _)) (by omega)
theorem sT {e:PM Nd} (he:Jw T e):Jw T (EA T e):=by
 intro p nd q h
 unfold EA at h
 simp only[Option.bind_eq_some_iff,Option.map_eq_some_iff,Prod.exists,Prod.mk.injEq] at h
 obtain⟨t,p1,h1,c,p2,h2,p3,h3,u,p4,h4,p5,h5,d,p6,h6,p7,h7,rfl,rfl⟩:=h
 obtain⟨_,g0,_⟩:=Xy h1
 exact g0.trans ((Um he _ _ _ h2).trans ((Xm h3).trans ((HG (by decide) h4).trans ((Xm h5).trans ((Um he _ _ _ h6).trans (Xm h7) (Nat.le_refl _)) (Nat.le_refl _)) (Nat.le_refl _)) (Nat.le_refl _)) (Nat.le_refl _)) (by simp[Z',Xg];omega)
theorem FL {e pt:PM Nd} (he:Jw T e) (hp:Jw T pt):Jw T (Xz T e pt):=by
 intro p nd q h
 unfold Xz at h
 simp only[Option.bind_eq_some_iff] at h
 obtain⟨t,hl,h⟩:=h
 split at h
 ·exact cR he hp _ _ _ h
 split at h
 ·exact sT he _ _ _ h
 split at h
 ·simp only[Option.map_eq_some_iff,Prod.exists,Prod.mk.injEq] at h
  obtain⟨t',p1,h1,rfl,rfl⟩:=h
  obtain⟨g1,_,g2⟩:=Xy h1
  rw[hl] at g1;cases g1
  exact (g2 (DJ (by assumption))).le (by simp[Z',Xg])
 split at h
 ·rename_i hb
  simp only[Option.bind_eq_some_iff,Prod.exists] at h
  obtain⟨t',p1,h1,b,p2,h2,h⟩:=h
  obtain⟨g1,_,g2⟩:=Xy h1
  rw[hl] at g1;cases g1
  have g2:=(g2 (DJ hb)).le (b:=8) (by omega)
  split at h
  ·cases h
   exact g2.trans (U5 h2) (by simp[Z',Xg];omega)
  ·simp only[Option.bind_eq_some_iff,Option.map_eq_some_iff,Prod.exists,Prod.mk.injEq] at h
   obtain⟨c,p3,h3,p4,h4,rfl,rfl⟩:=h
   exact g2.trans ((U5 h2).trans ((Um he _ _ _ h3).trans (Xm h4) (Nat.le_refl _)) (Nat.le_refl _)) (by omega)
 ·exact (pD (by decide) h).le (by omega)
theorem jP {e pt:PM Nd} (he:Jw T e) (hp:Jw T pt):∀ (n:Nat) (nd:Nd) (p:PS) (r:Nd) (q:PS),XS T e pt n nd p=some (r,q)→∃ k,wt r=wt nd+k∧Go1 T p q k
 | 0,_,_,_,_,h=>by cases h;exact⟨0,by omega,.refl⟩
 | n+1,nd,p,r,q,h=>by
  unfold XS at h
  simp only[Option.bind_eq_some_iff,Prod.exists] at h
  obtain⟨c,p1,h1,h2⟩:=h
  obtain⟨k,h3,h4⟩:=jP he hp n _ _ _ _ h2
  rw[XK] at h3
  exact⟨wt c+k,by omega,(FL he hp _ _ _ h1).trans h4 (by omega)⟩
theorem kl {e pt:PM Nd} (he:Jw T e) (hp:Jw T pt):∀ (n:Nat) (m:Bool) (nd:Nd) (p:PS) (r:Nd) (q:PS),JY T e pt n m nd p=some (r,q)→∃ k,wt r=wt nd+k∧Go1 T p q k
 | 0,_,_,_,_,_,h=>by cases h
 | n+1,m,nd,p,r,q,h=>by
  unfold JY at h
  simp only[Option.bind_eq_some_iff] at h
  obtain⟨t,hl,h⟩:=h
  split at h
  ·split at h
   ·simp only[Option.bind_eq_some_iff,Prod.exists] at h
    obtain⟨p1,h1,c,p2,h2,h4⟩:=h
    obtain⟨k,h5,h6⟩:=kl he hp n _ _ _ _ _ h4
    rw[XK] at h5
    exact⟨wt c+k,by omega,(Hj h1).trans ((FL he hp _ _ _ h2).trans h6 (Nat.le_refl _)) (by omega)⟩
   ·simp only[Option.bind_eq_some_iff,Prod.exists] at h
    obtain⟨c,p2,h2,h4⟩:=h
    obtain⟨k,h5,h6⟩:=kl he hp n _ _ _ _ _ h4
    rw[Z'] at h5
    simp only[Xg,List.length_nil] at h5
    exact⟨wt c+1+k,by omega,(FL he hp _ _ _ h2).trans h6 (by omega)⟩
  ·cases h;exact⟨0,by omega,.refl⟩
theorem ib {e pt:PM Nd} (he:Jw T e) (hp:Jw T pt):Jw T (Hl T e pt):=by
 intro p nd q h
 unfold Hl at h
 simp only[Option.bind_eq_some_iff] at h
 obtain⟨t,hl,h⟩:=h
 split at h
 ·rename_i hk
  simp only[Option.bind_eq_some_iff,Prod.exists] at h
  obtain⟨t',p1,h1,h2⟩:=h
  obtain⟨g1,_,g2⟩:=Xy h1
  rw[hl] at g1;cases g1
  obtain⟨k,h5,h6⟩:=jP he hp _ _ _ _ _ h2
  rw[Z'] at h5
  simp only[Xg,List.length_nil] at h5
  exact (g2 (by omega)).trans h6 (by omega)
 ·simp only[Option.bind_eq_some_iff,Prod.exists] at h
  obtain⟨c,p1,h1,h2⟩:=h
  obtain⟨k,h5,h6⟩:=kl he hp _ _ _ _ _ _ h2
  exact (FL he hp _ _ _ h1).trans h6 (by omega)
theorem v7 {part:PM Nd} (hp:Jw T part) (signs:List Tx):∀ (n:Nat) (t:Tk) (nd:Nd) (p:PS) (r:Nd) (q:PS),zR T p=some t→Ji T part signs n t nd p=some (r,q)→∃ k,wt r=wt nd+k∧Go1 T p q k
 | 0,_,_,_,_,_,_,h=>by cases h
 | n+1,t,nd,p,r,q,hl,h=>by
  unfold Ji at h
  split at h
  ·rename_i hk
   simp only[Option.bind_eq_some_iff,Prod.exists] at h
   obtain⟨t1,p1,h1,c,p2,h2,t2,h3,h4⟩:=h
   obtain⟨g1,_,g2⟩:=Xy h1
   rw[hl] at g1;cases g1
   obtain⟨k,h5,h6⟩:=v7 hp signs n _ _ _ _ _ h3 h4
   rw[Z'] at h5
   simp only[Xg] at h5
   exact⟨wt c+1+t.text.length+k,by omega,(g2 (by omega)).trans ((hp _ _ _ h2).trans h6 (Nat.le_refl _)) (by omega)⟩
  ·cases h;exact⟨0,by omega,.refl⟩
theorem xY {part:PM Nd} (hp:Jw T part) (signs:List Tx):Jw T (JQ T part signs):=by
 intro p nd q h
 unfold JQ at h
 simp only[Option.bind_eq_some_iff,Prod.exists] at h
 obtain⟨c,p1,h1,t,h2,h3⟩:=h
 obtain⟨k,h5,h6⟩:=v7 hp signs _ _ _ _ _ _ h2 h3
 exact (hp _ _ _ h1).trans h6 (by omega)
theorem rl {e pt:PM Nd} (he:Jw T e) (hp:Jw T pt):Jw T (Hx T e pt):=by
 have hs:Jw T (GS T e pt):=xY (xY (ib he hp) _) _
 intro p nd q h
 unfold Hx at h
 simp only[Option.bind_eq_some_iff,Prod.exists] at h
 obtain⟨c,p1,h1,t,h2,h⟩:=h
 have g1:=hs _ _ _ h1
 split at h
 ·rename_i hk
  simp only[Option.bind_eq_some_iff,Option.map_eq_some_iff,Prod.exists,Prod.mk.injEq] at h
  obtain⟨t1,p2,h3,d,p3,h4,rfl,rfl⟩:=h
  obtain⟨k1,_,k2⟩:=Xy h3
  rw[h2] at k1;cases k1
  exact g1.trans ((k2 (hk.elim DJ DJ)).trans (hs _ _ _ h4) (Nat.le_refl _)) (by simp[Z',Xg];omega)
 ·cases h;exact g1
theorem uH {e:PM Nd} (he:Jw T e) {p q:PS} {x:Tx} {b:Bool} {v:Nd} (h:Ye T e p=some ((x,b,v),q)):Go1 T p q (x.length+wt v+8):=by
 unfold Ye at h
 simp only[Option.bind_eq_some_iff,Option.map_eq_some_iff,Prod.exists,Prod.mk.injEq] at h
 obtain⟨b',p1,h1,t,p2,h2,p3,h3,p4,h4,w,p5,h5,⟨rfl,rfl,rfl⟩,rfl⟩:=h
 have g4:Go1 T p3 p4 0:=by
  split at h4
  ·simp only[Option.bind_eq_some_iff] at h4
   obtain⟨c,_,h4⟩:=h4
   split at h4
   ·cases h4;exact .refl
   ·exact WO (by decide) h4 0
  ·cases h4;exact .refl
 exact (U5 h1).trans ((HG (by decide) h2).trans ((Xm h3).trans (g4.trans (EC he _ _ _ h5) (Nat.le_refl _)) (Nat.le_refl _)) (Nat.le_refl _)) (by omega)
theorem oR {e pt:PM Nd} (he:Jw T e) (hp:Jw T pt):Jw T (UJ T e pt):=by
 intro p nd q h
 unfold UJ at h
 simp only[Option.bind_eq_some_iff] at h
 obtain⟨t,hl,h⟩:=h
 split at h
 ·unfold GE at h
  simp only[Option.bind_eq_some_iff,Option.map_eq_some_iff,Prod.exists,Prod.mk.injEq] at h
  obtain⟨t0,p1,h1,x,b,v,p2,h2,p3,h3,c,p4,h4,rfl,rfl⟩:=h
  obtain⟨_,g0,_⟩:=Xy h1
  exact g0.trans ((uH he h2).trans ((Xm h3).trans (EC he _ _ _ h4) (Nat.le_refl _)) (Nat.le_refl _)) (by simp[Z',Xg];omega)
 split at h
 ·unfold GO at h
  simp only[Option.bind_eq_some_iff,Option.map_eq_some_iff,Prod.exists,Prod.mk.injEq] at h
  obtain⟨t0,p1,h1,x,p2,h2,p3,h3,c,p4,h4,rfl,rfl⟩:=h
  obtain⟨_,g0,_⟩:=Xy h1
  exact g0.trans ((HG (by decide) h2).trans ((Xm h3).trans (EC he _ _ _ h4) (Nat.le_refl _)) (Nat.le_refl _)) (by simp[Z',Xg];omega)
 split at h
 ·unfold Jf at h
  simp only[Option.bind_eq_some_iff,Option.map_eq_some_iff,Prod.exists,Prod.mk.injEq] at h
  obtain⟨t0,p1,h1,c,p2,h2,p3,h3,d,p4,h4,p5,h5,f,p6,h6,rfl,rfl⟩:=h
  obtain⟨_,g0,_⟩:=Xy h1
  exact g0.trans ((EC he _ _ _ h2).trans ((Xm h3).trans ((EC he _ _ _ h4).trans ((Xm h5).trans (EC he _ _ _ h6) (Nat.le_refl _)) (Nat.le_refl _)) (Nat.le_refl _)) (Nat.le_refl _)) (by simp[Z',Xg];omega)
 ·simp only[Option.bind_eq_some_iff,Prod.exists] at h
  obtain⟨c,p1,h1,b,p2,h2,h⟩:=h
  have g1:=rl he hp _ _ _ h1
  have g2:Go1 T p1 p2 (if b=true then 8 else 0):=by
   split at h2
   ·cases h2;exact .refl
   ·exact U5 h2
  split at h
  ·rename_i hb
   have hb:b=true:=hb
   rw[if_pos hb] at g2
   simp only[Option.map_eq_some_iff,Prod.exists,Prod.mk.injEq] at h
   obtain⟨d,p3,h3,rfl,rfl⟩:=h
   exact g1.trans (g2.trans (EC he _ _ _ h3) (Nat.le_refl _)) (by simp[Z',Xg];omega)
  ·cases h;exact g1.trans g2 (by omega)
theorem vj:∀ n,Jw T (Wx T n)
 | 0=>fun _ _ _ h=>by cases h
 | n+1=>oR (vj n) (vh (n+1))
theorem oc {e ty:PM Nd} (he:Jw T e) (ht:Jw T ty):Jw T (WE T e ty):=by
 intro p nd q h
 unfold WE at h
 simp only[Option.bind_eq_some_iff,Option.map_eq_some_iff,Prod.exists,Prod.mk.injEq] at h
 obtain⟨b,_,c,p1,h1,p2,h2,rfl,rfl⟩:=h
 have g2:=Xm h2
 split at h1
 ·exact (kP ht h1).trans g2 (by omega)
 ·simp only[Option.bind_eq_some_iff,Option.map_eq_some_iff,Prod.exists,Prod.mk.injEq] at h1
  obtain⟨t,p3,h3,x,b',v,p4,h4,rfl,rfl⟩:=h1
  obtain⟨_,g0,_⟩:=Xy h3
  have g4:=uH he h4
  have g5:Go1 T p3 p4 (x.length+wt v+8):=fun z=>g4 z
  have g6:Go1 T p4 p2 8:=fun z=>g2 z
  exact g0.trans (g5.trans g6 (Nat.le_refl _)) (by simp[Z',Xg];omega)
theorem uL {e ty:PM Nd} (he:Jw T e) (ht:Jw T ty):∀ (n:Nat) (nd:Nd) (p:PS) (r:Nd) (q:PS),VB T e ty n nd p=some (r,q)→∃ k,wt r=wt nd+k∧Go1 T p q k
 | 0,_,_,_,_,h=>by cases h
 | n+1,nd,p,r,q,h=>by
  unfold VB at h
  simp only[Option.bind_eq_some_iff] at h
  obtain⟨a,_,b,_,h⟩:=h
  split at h
  ·simp only[Option.bind_eq_some_iff,Prod.exists] at h
   obtain⟨p1,h1,c,p2,h2,h4⟩:=h
   obtain⟨k,h5,h6⟩:=uL he ht n _ _ _ _ h4
   rw[XK] at h5
   exact⟨wt c+k,by omega,(Hj h1).trans ((oc he ht _ _ _ h2).trans h6 (Nat.le_refl _)) (by omega)⟩
  ·cases h;exact⟨0,by omega,.refl⟩
theorem ee (T:List Tk) (i N:Nat) (h:∀ t∈T,t.text.length≤N):wq T i≤T.length*(N+8):=by
 unfold wq
 have key:∀ l:List Tk,(∀ t∈l,t.text.length≤N)→(l.map fun t=>t.text.length+8).sum≤l.length*(N+8):=by
  intro l hl
  induction l with
  | nil=>simp
  | cons a r ih =>
   have h1:=ih fun t ht=>hl t (List.mem_cons_of_mem _ ht)
   have h2:=hl a List.mem_cons_self
   rw[List.map_cons,List.sum_cons,List.length_cons,Nat.add_mul];omega
 have h1:=key (T.take i) fun t ht=>h t (List.mem_of_mem_take ht)
 refine Nat.le_trans h1 (Nat.mul_le_mul_right _ ?_)
 rw[List.length_take];exact Nat.min_le_right _ _
theorem xM {n:Nd} {a:Int} {N:Nat} (h:YO T=some (n,a,0)) (hN:∀ t∈T,t.text.length≤N):wt n≤T.length*(N+8)+1:=by
 unfold YO at h
 simp only[Option.map_eq_some_iff,Prod.exists] at h
 obtain⟨r,q,h,hr⟩:=h
 unfold KC at h
 simp only[Option.bind_eq_some_iff,Option.map_eq_some_iff,Prod.exists,Prod.mk.injEq] at h
 obtain⟨t,k1,x,p1,k2,p2,k3,u,p3,k4,t',k5,p4,k6,rfl,rfl⟩:=h
 split at hr
 ·rename_i z
  cases hr
  obtain⟨k,h5,h6⟩:=uL (vj 42) (tE 42) _ _ _ _ _ k2
  rw[Z'] at h5
  simp only[Xg,List.length_nil] at h5
  have g6:Go1 T p3 p4 0:=by
   split at k6
   ·exact WO (by decide) k6 0
   ·cases k6;exact .refl
  have:=(h6.trans ((Xm k3).trans ((EC (vj 42) _ _ _ k4).trans g6 (Nat.le_refl _)) (Nat.le_refl _)) (Nat.le_refl _)) z
  have h8:=ee T p4.pos N hN
  rw[XK]
  omega
 ·rename_i z
  simp only[Prod.mk.injEq] at hr
  exact absurd hr.2.2 z
end Go.AL
