/- What show.Program computes, as plain functions. -/
import Derived.Test.YtkokccjfpebomaaGreatDoorK5
set_option linter.all false
namespace Go.AL
def qO:List Tx→Tx
 | []=>[]
 | [a]=>a
 | a::b::r=>a++32::qO (b::r)
def qX(k:Int):Tx :=
 if k=15 then [112,114,105,110,116] else if k=16 then [114,97,105,115,101] else if k=17 then [115,112,97,119,110] else if k=18 then [97,116,111,109,105,99,97,108,108,121] else if k=21 then [116,118,97,114]
 else if k=22 then [114,101,97,100] else if k=23 then [119,114,105,116,101] else if k=20 then [111,114,101,108,115,101] else []
def ZV(t:Tx):Int:=if t=[61]∨t=[60] then 5 else if t=[43]∨t=[45]∨t=[94] then 4 else 3
def qZ(n:Nd):Int :=
 if n.kind=14 then 7 else if n.kind=8∨n.kind=9∨n.kind=6∨n.kind=10 then 6 else if n.kind=13 then ZV n.text
 else if n.kind=7 then 1 else if n.kind=5 then (if 0<n.kids.length then 2 else 0) else if qX n.kind≠[] then 2 else 0
def qg(n:Nd):Bool :=
 decide ((if n.kind=10 then 3 else if n.kind=7∨n.kind=8∨n.kind=9∨n.kind=12∨n.kind=13∨n.kind=14 then 2
  else if n.kind=6∨n.kind=11∨n.kind=28∨n.kind=29 then 1 else 0)≤n.kids.length)
def KC:Nat→Int→Tx→Tx
 | 0,_,acc=>acc
 | k+1,n,acc=>let acc:=UInt8.ofNat (48+(Int.tmod n 10).natAbs)::acc
  if Int.tdiv n 10=0 then acc else KC k (Int.tdiv n 10) acc
def Z9(n:Int):Int:=Int.bmod n 9223372036854775808
def Yh(n:Int):Tx:=(if Z9 n<0 then [45] else [])++KC 20 (Z9 n) []
def YX(c:UInt8):UInt8:=hexL.getD c.toNat 0
def qE(c:UInt8):Tx:=if YK c then [c] else if c=10 then [92,110] else if c=34∨c=92 then [92,c] else [92,120,YX (c >>> 4),YX (c &&& 15)]
def Ym(s:Tx):Tx:=34::(s.flatMap qE++[34])
section
variable (T:Nd→Int→Tx)
def zj(n:Nd)(most loose:Int):Tx:=if most<qZ n∨n.kind=5∧most=1 then qO [[40],T n 7,[41]] else T n loose
def X2(loose:Int):Tx→List Nd→Tx
 | w,[]=>w
 | w,k::r=>X2 loose (qO [w,zj T k 0 loose]) r
def kid(n:Nd)(i:Nat):Nd:=n.kids.getD i Wf
def fV(n:Nd)(loose:Int):Tx :=
 let l:Int:=if ZV n.text=5 then 4 else ZV n.text
 let r:Int:=if ZV n.text=5 then 4 else ZV n.text-1
 qO [zj T (kid n 0) l loose,n.text,zj T (kid n 1) r loose]
def Qm(w:Tx)(n:Nd)(loose:Int):Tx:=qO [w,n.text,[61],zj T (kid n 0) loose loose]
def Yr:Tx→List Nd→Tx
 | s,a::b::r=>Yr (s++qO [[32,124],T a 7,[45,62],zj T b 7 7]) r
 | s,_=>s
def qC(n:Nd)(loose:Int):Tx :=
 if qg n=false then [36] else if qX n.kind≠[] then X2 T loose (qX n.kind) n.kids
 else if n.kind=1 then Yh n.num else if n.kind=2 then Ym n.text else if n.kind=3 then [40,32,41]
 else if n.kind=4∨n.kind=5∨n.kind=27 then X2 T loose n.text n.kids
 else if n.kind=24 then [95] else if n.kind=19 then [114,101,116,114,121]
 else if n.kind=6 then qO [[102,117,110],n.text,[45,62],zj T (kid n 0) loose loose]
 else if n.kind=7 then qO [zj T (kid n 0) 1 loose,zj T (kid n 1) 0 loose]
 else if n.kind=8 then qO [Qm T [108,101,116] n loose,[105,110],zj T (kid n 1) loose loose]
 else if n.kind=9 then qO [Qm T [108,101,116,32,114,101,99] n loose,[105,110],zj T (kid n 1) loose loose]
 else if n.kind=10 then qO [[105,102],zj T (kid n 0) loose loose,[116,104,101,110],zj T (kid n 1) loose loose,[101,108,115,101],zj T (kid n 2) loose loose]
 else if n.kind=11 then qO [[109,97,116,99,104],zj T (kid n 0) 7 7,[119,105,116,104]]++Yr T [] n.kids.tail++[32,101,110,100]
 else if n.kind=12 then qO [[116,114,121],zj T (kid n 0) 7 7,[119,105,116,104],n.text,[45,62],zj T (kid n 1) 7 7,[101,110,100]]
 else if n.kind=13 then fV T n loose
 else if n.kind=14 then qO [zj T (kid n 0) 5 loose,[59],zj T (kid n 1) 7 7]
 else [36]
end
def zo:Nat→Nd→Int→Tx
 | 0=>fun _ _=>[]
 | d+1=>qC (zo d)
def XQ(T:Nd→Tx):Tx→List Nd→Tx
 | s,[]=>s
 | s,k::r=>XQ T (if 0<k.kids.length then qO [s,[40],T k,[41]] else qO [s,T k]) r
def qr:Nat→Nd→Tx
 | 0=>fun _=>[]
 | d+1=>fun n=>XQ (qr d) n.text n.kids
def Wj(T:Nd→Tx):Nat→Tx→List Nd→Tx
 | _,s,[]=>s
 | i,s,k::r=>Wj T (i+1) (qO [s,if i=0 then [111,102] else [44],T k]) r
def K5(d:Nat)(n:Nd):Tx:=Wj (qr d) 0 n.text n.kids
def YQ(d:Nat):Nat→Tx→List Nd→Tx
 | _,s,[]=>s
 | i,s,k::r=>YQ d (i+1) (qO [if 0<i then qO [s,[124]] else s,K5 d k]) r
def Z7(d:Nat)(n:Nd):Tx :=
 if n.kind=28∧qg n=true then Qm (zo d) [108,101,116] n 6
 else if n.kind=29∧qg n=true then Qm (zo d) [108,101,116,32,114,101,99] n 6
 else if n.kind≠25 then [36]
 else YQ d 0 (qO (([[116,121,112,101],n.text]++n.names)++[[61]])) n.kids
def XI(d:Nat):Tx→List Nd→Tx
 | s,[]=>s
 | s,k::r=>XI d (s++qO [Z7 d k,[59,32]]) r
def qR(d:Nat)(n:Nd):Tx:=XI d [] n.kids.dropLast++qO [[100,111],zj (zo d) (n.kids.getLastD Wf) 7 7]
end Go.AL
namespace Go.AL
inductive Dep:Nat→Nd→Prop where
 | mk (d:Nat) (n:Nd) (h:∀ c∈n.kids,Dep d c):Dep (d+1) n
theorem Dep.kids{d:Nat}{n:Nd}(h:Dep (d+1) n):∀ c∈n.kids,Dep d c:=by cases h;assumption
theorem Dep.pos{d:Nat}{n:Nd}(h:Dep d n):∃ k,d=k+1:=by cases h;exact⟨_,rfl⟩
theorem Dep.mono{d:Nat}{n:Nd}(h:Dep d n):∀ {k:Nat},d≤k→Dep k n:=by
 induction h with
 | mk d n h ih =>
  intro k hk;obtain⟨j,rfl⟩:∃ j,k=j+1:=⟨k-1,by omega⟩;exact .mk _ _ fun c hc=>ih c hc (by omega)
mutual
theorem bc:∀ n:Nd,∃ d,Dep d n
 | .mk k t m a ns ks=>by
  obtain⟨d,h⟩:=gQ ks;exact⟨d+1,.mk _ _ h⟩
theorem gQ:∀ l:List Nd,∃ d,∀ c∈l,Dep d c
 | []=>⟨0,fun c hc=>by cases hc⟩
 | n::r=>by
  obtain⟨d,h⟩:=bc n;obtain⟨e,g⟩:=gQ r;refine⟨d+e,fun c hc=>?_⟩;rcases List.mem_cons.1 hc with rfl | hc
  ·exact h.mono (Nat.le_add_right _ _)
  ·exact (g c hc).mono (Nat.le_add_left _ _)
end
theorem UA{a b:Nd}(h:Zg a b=true):a.kids.length=b.kids.length:=Kk (XW h).2.2.2.2
section
variable {T U:Nd→Int→Tx}
end
end Go.AL
namespace Go.AL
def Q7(l:List Tx):Nat:=(l.map fun s=>s.length+1).sum
mutual
def wt:Nd→Nat
 | .mk _ t _ _ ns ks=>1+t.length+Q7 ns+Xt ks
def Xt:List Nd→Nat
 | []=>0
 | n::r=>wt n+Xt r
end
theorem Ee(n:Nd):wt n=1+n.text.length+Q7 n.names+Xt n.kids:=by cases n;rfl
inductive Fit:Nd→Prop where
 | mk (n:Nd) (h:∀ c∈n.kids,Fit c) (h1:n.kids.length≤100000) (h2:n.names.length≤100000) (h3:n.text.length≤100000):Fit n
theorem Fit.kids{n:Nd}(h:Fit n):(∀ c∈n.kids,Fit c)∧n.kids.length≤100000∧n.names.length≤100000∧n.text.length≤100000:=by cases h with | mk _ h h1 h2 h3=>exact⟨h,h1,h2,h3⟩
theorem xY:∀ l:List Nd,l.length≤Xt l
 | []=>Nat.le_refl _
 | n::r=>by
  have:=xY r;have:=Ee n;simp only[Xt,xlC];omega
theorem yC(l:List Tx):l.length≤Q7 l:=by
 induction l with
 | nil=>simp[Q7]
 | cons a r ih=>simp[Q7] at ih ⊢;omega
mutual
theorem n9:∀ n:Nd,wt n≤100000→Fit n
 | .mk k t m a ns ks,h=>by
  have hw:=Ee (.mk k t m a ns ks);have h1:=xY ks;have h2:=yC ns;simp only[Nd.text,Nd.names,Nd.kids] at hw;exact .mk _ (pD ks (by omega)) (by simp only[Nd.kids];omega) (by simp only[Nd.names];omega) (by simp only[Nd.text];omega)
theorem pD:∀ l:List Nd,Xt l≤100000→∀ c∈l,Fit c
 | [],_,c,hc=>by cases hc
 | n::r,h,c,hc=>by
  simp only[Xt] at h;have h1:wt n≤100000:=by omega
  have h2:Xt r≤100000:=by omega
  rcases List.mem_cons.1 hc with e | hc
  ·rw[e];exact n9 n h1
  ·exact pD r h2 c hc
end
theorem Zf(a b:Tx):(qO [a,b]).length=a.length+b.length+1:=by simp[qO];omega
theorem Zc(a b c:Tx):(qO [a,b,c]).length=a.length+b.length+c.length+2:=by simp[qO];omega
theorem ZU(a b c d:Tx):(qO [a,b,c,d]).length=a.length+b.length+c.length+d.length+3:=by simp[qO];omega
theorem G7(a b c d e f:Tx):(qO [a,b,c,d,e,f]).length=a.length+b.length+c.length+d.length+e.length+f.length+5:=by simp[qO];omega
theorem Gv(a b c d e f g:Tx):(qO [a,b,c,d,e,f,g]).length=a.length+b.length+c.length+d.length+e.length+f.length+g.length+6:=by simp[qO];omega
theorem pj:∀ (k:Nat) (n:Int) (acc:Tx),(KC k n acc).length≤k+acc.length
 | 0,_,acc=>by simp[KC]
 | k+1,n,acc=>by
  unfold KC;dsimp only;split
  ·simp;omega
  ·have:=pj k (Int.tdiv n 10) (UInt8.ofNat (48+(Int.tmod n 10).natAbs)::acc);rw[xlC] at this;omega
theorem dv(n:Int):(Yh n).length≤21:=by
 unfold Yh;have:=pj 20 (Z9 n) [];rw[xlA];split <;> simp at this ⊢ <;> omega
theorem cQ(s:Tx):(Ym s).length≤2+4*s.length:=by
 have h:∀ s:Tx,(s.flatMap qE).length≤4*s.length:=by
  intro s;induction s with
  | nil=>simp
  | cons c r ih =>
   have hc:(qE c).length≤4:=by
    unfold qE;repeat' split
    all_goals simp
   rw[List.flatMap_cons,xlA,xlC];omega
 have:=h s;unfold Ym;simp only[xlC,xlA,xlN];omega
theorem ga(k:Int):(qX k).length≤10:=by
 unfold qX;repeat' split
 all_goals simp
section
variable {T:Nd→Int→Tx}
def TB(T:Nd→Int→Tx):Prop:=∀ n l,(T n l).length+20≤60*wt n
theorem Jz(hT:TB T)(n:Nd)(m l:Int):(zj T n m l).length+16≤60*wt n:=by
 have h7:=hT n 7;have hl:=hT n l;unfold zj;split
 ·rw[Zc];simp only[xlC,xlN];omega
 ·omega
theorem Gr(hT:TB T)(l:Int):∀ (ks:List Nd) (w:Tx),(X2 T l w ks).length≤w.length+60*Xt ks
 | [],w=>by simp[X2,Xt]
 | k::r,w=>by
  have h:=Gr hT l r (qO [w,zj T k 0 l]);have:=Jz hT k 0 l;rw[Zf] at h;show (X2 T l _ r).length≤_+60*(wt k+Xt r);omega
theorem wL(hT:TB T):∀ (ks:List Nd) (w:Tx),(Yr T w ks).length≤w.length+60*Xt ks
 | [],w=>by simp[Yr,Xt]
 | [a],w=>by simp[Yr,Xt]
 | a::b::r,w=>by
  have h:=wL hT r (w++qO [[32,124],T a 7,[45,62],zj T b 7 7]);have h1:=hT a 7;have h2:=Jz hT b 7 7;rw[xlA,ZU] at h;simp only[xlC,xlN] at h;show (Yr T _ r).length≤_+60*(wt a+(wt b+Xt r));omega
theorem G3{n:Nd}(h:1≤n.kids.length):wt (kid n 0)≤Xt n.kids:=by
 unfold kid;match n.kids,h with
 | a::r,_=>exact Nat.le_add_right _ _
theorem V'{n:Nd}(h:2≤n.kids.length):wt (kid n 0)+wt (kid n 1)≤Xt n.kids:=by
 unfold kid;match n.kids,h with
 | a::b::r,_=>simp only[Xt,xgZ,xgS];omega
theorem bA{n:Nd}(h:3≤n.kids.length):wt (kid n 0)+wt (kid n 1)+wt (kid n 2)≤Xt n.kids:=by
 unfold kid;match n.kids,h with
 | a::b::c::r,_=>simp only[Xt,xgZ,xgS];omega
theorem nL{n:Nd}(h:1≤n.kids.length):wt (kid n 0)+Xt n.kids.tail≤Xt n.kids:=by
 unfold kid;match n.kids,h with
 | a::r,_=>simp[Xt]
theorem pO(hT:TB T):TB (qC T):=by
 intro n l;have hw:=Ee n;have W:=fun k m l=>Jz hT k m l;have hk:=ga n.kind;unfold qC;by_cases c:qg n=false
 ·rw[if_pos c];simp only[xlC,xlN];omega
 rw[if_neg c];have hm:qg n=true:=by simpa using c
 unfold qg at hm;by_cases c:qX n.kind≠[]
 ·rw[if_pos c];have:=Gr hT l n.kids (qX n.kind);omega
 rw[if_neg c];clear c;by_cases c:n.kind=1
 ·rw[if_pos c];have:=dv n.num;omega
 rw[if_neg c];clear c;by_cases c:n.kind=2
 ·rw[if_pos c];have:=cQ n.text;omega
 rw[if_neg c];clear c;by_cases c:n.kind=3
 ·rw[if_pos c];simp only[xlC,xlN];omega
 rw[if_neg c];clear c;by_cases c:n.kind=4∨n.kind=5∨n.kind=27
 ·rw[if_pos c];have:=Gr hT l n.kids n.text;omega
 rw[if_neg c];clear c;by_cases c:n.kind=24
 ·rw[if_pos c];simp only[xlC,xlN];omega
 rw[if_neg c];clear c;by_cases c:n.kind=19
 ·rw[if_pos c];simp only[xlC,xlN];omega
 rw[if_neg c];clear c;by_cases c:n.kind=6
 ·rw[if_pos c];simp only[c] at hm;have:=G3 (n:=n) (by simpa using hm);have:=W (kid n 0) l l;rw[ZU];simp only[xlC,xlN];omega
 rw[if_neg c];clear c;by_cases c:n.kind=7
 ·rw[if_pos c];simp only[c] at hm;have:=V' (n:=n) (by simpa using hm);have:=W (kid n 0) 1 l;have:=W (kid n 1) 0 l;rw[Zf];omega
 rw[if_neg c];clear c;by_cases c:n.kind=8
 ·rw[if_pos c];simp only[c] at hm;have:=V' (n:=n) (by simpa using hm);have:=W (kid n 0) l l;have:=W (kid n 1) l l;unfold Qm;rw[Zc,ZU];simp only[xlC,xlN];omega
 rw[if_neg c];clear c;by_cases c:n.kind=9
 ·rw[if_pos c];simp only[c] at hm;have:=V' (n:=n) (by simpa using hm);have:=W (kid n 0) l l;have:=W (kid n 1) l l;unfold Qm;rw[Zc,ZU];simp only[xlC,xlN];omega
 rw[if_neg c];clear c;by_cases c:n.kind=10
 ·rw[if_pos c];simp only[c] at hm;have:=bA (n:=n) (by simpa using hm);have:=W (kid n 0) l l;have:=W (kid n 1) l l;have:=W (kid n 2) l l;rw[G7];simp only[xlC,xlN];omega
 rw[if_neg c];clear c;by_cases c:n.kind=11
 ·rw[if_pos c];simp only[c] at hm;have:=nL (n:=n) (by simpa using hm);have:=W (kid n 0) 7 7;have:=wL hT n.kids.tail [];rw[xlA,xlA,Zc];simp only[xlC,xlN] at this ⊢;omega
 rw[if_neg c];clear c;by_cases c:n.kind=12
 ·rw[if_pos c];simp only[c] at hm;have:=V' (n:=n) (by simpa using hm);have:=W (kid n 0) 7 7;have:=W (kid n 1) 7 7;rw[Gv];simp only[xlC,xlN];omega
 rw[if_neg c];clear c;by_cases c:n.kind=13
 ·rw[if_pos c];simp only[c] at hm;have:=V' (n:=n) (by simpa using hm);have:=W (kid n 0) (if ZV n.text=5 then 4 else ZV n.text) l;have:=W (kid n 1) (if ZV n.text=5 then 4 else ZV n.text-1) l;unfold fV;dsimp only;rw[Zc];omega
 rw[if_neg c];clear c;by_cases c:n.kind=14
 ·rw[if_pos c];simp only[c] at hm;have:=V' (n:=n) (by simpa using hm);have:=W (kid n 0) 5 l;have:=W (kid n 1) 7 7;rw[Zc];simp only[xlC,xlN];omega
 rw[if_neg c];clear c;simp only[xlC,xlN];omega
end
theorem Hn:∀ d,TB (zo d)
 | 0=>fun n l=>by have:=Ee n;simp[zo];omega
 | d+1=>pO (Hn d)
theorem G0{T:Nd→Tx}(hT:∀ n,(T n).length+20≤60*wt n):∀ (ks:List Nd) (w:Tx),(XQ T w ks).length≤w.length+60*Xt ks
 | [],w=>by simp[XQ,Xt]
 | k::r,w=>by
  have h1:=hT k;have h:=G0 hT r (if 0<k.kids.length then qO [w,[40],T k,[41]] else qO [w,T k]);show (XQ T _ r).length≤_+60*(wt k+Xt r);split at h
  ·rw[ZU] at h;simp only[xlC,xlN] at h;rw[if_pos (by assumption)];omega
  ·rw[Zf] at h;rw[if_neg (by assumption)];omega
theorem FF:∀ d n,(qr d n).length+20≤60*wt n
 | 0,n=>by have:=Ee n;simp[qr];omega
 | d+1,n=>by
  have:=G0 (FF d) n.kids n.text;have:=Ee n;show (XQ (qr d) n.text n.kids).length+20≤_;omega
theorem vL{T:Nd→Tx}(hT:∀ n,(T n).length+20≤60*wt n):∀ (ks:List Nd) (i:Nat) (w:Tx),(Wj T i w ks).length≤w.length+60*Xt ks
 | [],_,w=>by simp[Wj,Xt]
 | k::r,i,w=>by
  have h1:=hT k;have h:=vL hT r (i+1) (qO [w,if i=0 then [111,102] else [44],T k]);have h2:(if i=0 then [111,102] else [44]:Tx).length≤2:=by split <;> simp
  show (Wj T _ _ r).length≤_+60*(wt k+Xt r);rw[Zc] at h;omega
theorem oL(d:Nat)(n:Nd):(K5 d n).length+20≤60*wt n:=by
 have:=vL (FF d) n.kids 0 n.text;have:=Ee n;unfold K5;omega
theorem wK(d:Nat):∀ (ks:List Nd) (i:Nat) (w:Tx),(YQ d i w ks).length≤w.length+60*Xt ks
 | [],_,w=>by simp[YQ,Xt]
 | k::r,i,w=>by
  have h1:=oL d k;have h:=wK d r (i+1) (qO [if 0<i then qO [w,[124]] else w,K5 d k]);have h2:(if 0<i then qO [w,[124]] else w:Tx).length≤w.length+2:=by split <;> simp[Zf]
  show (YQ d _ _ r).length≤_+60*(wt k+Xt r);rw[Zf] at h;omega
theorem FJ:∀ (l:List Tx) (z:Tx),(qO (l++[z])).length=Q7 l+z.length
 | [],z=>by simp[qO,Q7]
 | [a],z=>by simp[qO,Q7];omega
 | a::b::r,z=>by
  have:=FJ (b::r) z;show (a++32::qO (b::r++[z])).length=_;rw[xlA,xlC,this];simp[Q7];omega
theorem fu(d:Nat)(n:Nd):(Z7 d n).length+20≤60*wt n:=by
 have hw:=Ee n;unfold Z7;split
 ·rename_i h;have hm:=h.2;unfold qg at hm;simp only[h.1] at hm;have:=G3 (n:=n) (by simpa using hm);have:=Jz (Hn d) (kid n 0) 6 6;unfold Qm;rw[ZU];simp only[xlC,xlN];omega
 split
 ·rename_i h;have hm:=h.2;unfold qg at hm;simp only[h.1] at hm;have:=G3 (n:=n) (by simpa using hm);have:=Jz (Hn d) (kid n 0) 6 6;unfold Qm;rw[ZU];simp only[xlC,xlN];omega
 split
 ·simp only[xlC,xlN];omega
 ·have:=wK d n.kids 0 (qO (([[116,121,112,101],n.text]++n.names)++[[61]]));rw[FJ] at this;simp[Q7] at this;simp[Q7] at hw;simp;omega
theorem FQ(d:Nat):∀ (ks:List Nd) (w:Tx),(XI d w ks).length≤w.length+60*Xt ks
 | [],w=>by simp[XI,Xt]
 | k::r,w=>by
  have h1:=fu d k;have h:=FQ d r (w++qO [Z7 d k,[59,32]]);show (XI d _ r).length≤_+60*(wt k+Xt r);rw[xlA,Zf] at h;simp only[xlC,xlN] at h;omega
theorem vP:∀ l:List Nd,Xt l.dropLast+wt (l.getLastD Wf)≤Xt l+1
 | []=>by simp[Xt,Wf,wt,Q7]
 | [a]=>by simp[Xt]
 | a::b::r=>by
  have:=vP (b::r);show wt a+Xt (b::r).dropLast+wt ((b::r).getLastD Wf)≤wt a+Xt (b::r)+1;omega
theorem FW(d:Nat)(n:Nd):(qR d n).length≤60*wt n+60:=by
 have h1:=FQ d n.kids.dropLast [];have h2:=Jz (Hn d) (n.kids.getLastD Wf) 7 7;have h3:=vP n.kids;have hw:=Ee n;unfold qR;rw[xlA,Zf];simp only[xlC,xlN] at h1 ⊢;omega
end Go.AL
namespace Go.AL
def wq(T:List Tk)(i:Nat):Nat:=((T.take i).map fun t=>t.text.length+8).sum
theorem lp(T:List Tk){i j:Nat}(h:i≤j):wq T i≤wq T j:=by
 unfold wq;obtain⟨k,rfl⟩:=Nat.exists_eq_add_of_le h;rw[List.take_add,xmA,List.sum_append];exact Nat.le_add_right _ _
theorem o8{T:List Tk}{i:Nat}{t:Tk}(h:T[i]?=some t):wq T (i+1)=wq T i+t.text.length+8:=by
 unfold wq;rw[List.take_add_one,h];simp;omega
theorem Ye(n c:Nd):wt (n.addKid c)=wt n+wt c:=by
 have happ:∀ l r:List Nd,Xt (l++r)=Xt l+Xt r:=by
  intro l r;induction l with
  | nil=>simp[Xt]
  | cons a l ih=>simp[Xt,ih];omega
 cases n;simp[Nd.addKid,wt,happ,Xt];omega
theorem l7(l r:List Nd):Xt (l++r)=Xt l+Xt r:=by
 induction l with
 | nil=>simp[Xt]
 | cons a l ih=>simp[Xt,ih];omega
theorem yx(n:Nd)(l:List Nd):wt (n.addKids l)=wt n+Xt l:=by
 cases n;simp[Nd.addKids,wt,l7];omega
theorem xq(n:Nd)(s:Tx):wt (n.addName s)=wt n+s.length+1:=by
 cases n;simp[Nd.addName,wt,Q7];omega
theorem Qk(k a:Int)(t:Tx)(l:List Nd):wt (zw k a t l)=1+t.length+Xt l:=by simp[zw,wt,Q7]
variable {T:List Tk}
def Go1(T:List Tk)(p q:PS)(n:Nat):Prop:=q.e=0→p.e=0∧n+wq T p.pos≤wq T q.pos
theorem Go1.refl{p:PS}:Go1 T p p 0:=fun h=>⟨h,by omega⟩
theorem Go1.trans{p q r:PS}{a b c:Nat}(x:Go1 T p q a)(y:Go1 T q r b)(h:c≤a+b):Go1 T p r c:=fun hr=>by
 obtain⟨h1,h2⟩:=y hr;obtain⟨h3,h4⟩:=x h1;exact⟨h3,by omega⟩
theorem Go1.le{p q:PS}{a b:Nat}(x:Go1 T p q a)(h:b≤a):Go1 T p q b:=fun hr=>by
 obtain⟨h3,h4⟩:=x hr;exact⟨h3,by omega⟩
def YZ(T:List Tk)(e:PM Nd):Prop:=∀ p nd q,e p=some (nd,q)→Go1 T p q (wt nd+1)
theorem Vv{p q:PS}{e:Int}(he:e≠0)(h:Zq T e p=some q)(n:Nat):Go1 T p q n:=by
 unfold Zq at h;split at h
 ·simp only[xoM] at h;obtain⟨t,_,rfl⟩:=h;exact fun x=>absurd x he
 ·cases h;rename_i hp;exact fun x=>absurd x hp
theorem iA{p:PS}{t:Tk}(h:zH T p=some t):(p.e=0∧T[p.pos]?=some t)∨(p.e≠0∧t=F6):=by
 unfold zH at h;split at h
 ·exact .inl ⟨by assumption,h⟩
 ·cases h;exact .inr ⟨by assumption,rfl⟩
theorem ZZ{p q:PS}{t:Tk}(h:ZR T p=some (t,q)):zH T p=some t∧Go1 T p q 0∧(t.kind≠0→Go1 T p q (t.text.length+8)):=by
 unfold ZR at h;simp only[xoM,xpJ] at h;obtain⟨t',hl,rfl,rfl⟩:=h;refine⟨hl,?_,fun hk=>?_⟩
 ·split
  ·exact fun x=>⟨x,by have:=lp T (Nat.le_succ p.pos);simpa using this⟩
  ·exact .refl
 ·rcases iA hl with⟨h1,h2⟩ | ⟨h1,rfl⟩
  ·rw[if_pos ⟨h1,hk⟩];exact fun x=>⟨h1,by have:=o8 h2;show _≤wq T (p.pos+1);omega⟩
  ·exact absurd rfl hk
theorem E6{t:Tk}{s:Tx}(h:isT t s=true):t.kind≠0:=by
 unfold isT at h;simp only[XT,Bool.or_eq_true,beq_iff_eq] at h;omega
theorem Vs{p q:PS}{s:Tx}{b:Bool}(h:Xd T s p=some (b,q)):Go1 T p q (if b=true then 8 else 0):=by
 unfold Xd Yj at h;simp only[xoB,xoM] at h;obtain⟨c,⟨t,hl,rfl⟩,h⟩:=h;split at h
 ·simp only[xoM,xpJ] at h;obtain⟨⟨t',q'⟩,h2,rfl,rfl⟩:=h;obtain⟨g1,_,g2⟩:=ZZ h2;rw[hl] at g1;cases g1;exact (g2 (E6 (by assumption))).le (by simp)
 ·cases h;exact .refl
theorem Zo{p q:PS}{s:Tx}(h:qy T s p=some q):Go1 T p q 8:=by
 unfold qy at h;simp only[xoB,xpX] at h;obtain⟨b,q',h1,h2⟩:=h;have:=Vs h1;split at h2
 ·cases h2;have hb:b=true:=by assumption
  rw[if_pos hb] at this;exact this
 ·exact this.trans (Vv (by decide) h2 8) (by omega)
theorem Ki{p q:PS}{k:Int}{t:Tk}(hk:k≠0)(h:Qy T k p=some (t,q)):Go1 T p q (t.text.length+8):=by
 unfold Qy at h;simp only[xoB] at h;obtain⟨t1,hl,p1,h1,h2⟩:=h;obtain⟨g1,g0,g2⟩:=ZZ h2;split at h1
 ·exact (Vv (by decide) h1 _).trans g0 (Nat.le_refl _)
 ·cases h1;rw[hl] at g1;cases g1;exact g2 (by rename_i x;have:=Classical.not_not.1 x;omega)
theorem VG{p q:PS}{n m:Int}(h:ZO T n m p=some q):Go1 T p q 0:=by
 unfold ZO at h;split at h
 ·exact Vv (by decide) h 0
 ·cases h;exact .refl
theorem DW{e:PM Nd}(he:YZ T e):YZ T (Yn T e):=by
 intro p nd q h;unfold Yn at h;simp only[xoB] at h;obtain⟨p1,h1,h⟩:=h;have g1:Go1 T p p1 0:=by
  split at h1
  ·exact Vv (by decide) h1 0
  ·cases h1;exact .refl
 split at h
 ·cases h;rename_i x;exact fun y=>absurd y x
 ·simp only[xoB,xpX] at h;obtain⟨r,p2,h2,h3⟩:=h;split at h3
  ·cases h3
  ·cases h3;have:=he _ _ _ h2;exact g1.trans (q:=p1) (fun x=>this x) (by omega)
theorem pm{e:PM Nd}(he:YZ T e){p q:PS}{nd:Nd}(h:Yl T e p=some (nd,q)):Go1 T p q (wt nd+8):=by
 unfold Yl at h;simp only[xoB,xoM,xpX,xpJ] at h;obtain⟨p1,h1,r,p2,h2,p3,h3,rfl,rfl⟩:=h;exact (Zo h1).trans (((DW he) _ _ _ h2).trans (Zo h3) (Nat.le_refl _)) (by omega)
theorem fS{kinds:List (Int×Int)}(hk:∀ q∈kinds,q.1≠0){p q:PS}{nd:Nd}(h:Xc T kinds p=some (nd,q)):Go1 T p q (wt nd+7):=by
 unfold Xc at h;simp only[xoB] at h;obtain⟨t,hl,h⟩:=h;split at h
 ·simp only[xoM,xpJ] at h;obtain⟨q',h1,rfl,rfl⟩:=h;exact Vv (by decide) h1 _
 ·simp only[xoM,xpJ,xpX] at h;obtain⟨t',q',h1,rfl,rfl⟩:=h;rename_i hne;have hk0:t.kind≠0:=by
   cases hf:kinds.find? fun q=>q.1==t.kind with
   | none=>rw[hf] at hne;exact absurd rfl hne
   | some y =>
    have h1:=List.find?_some hf;have h2:=hk y (List.mem_of_find?_eq_some hf);have h1:y.1=t.kind:=by simpa using h1
    omega
  obtain⟨g1,_,g2⟩:=ZZ h1;rw[hl] at g1;cases g1;exact (g2 hk0).le (by simp[wt,Q7,Xt];omega)
theorem nQ{e:PM Nd}(he:YZ T e):∀ (n:Nat) (nd:Nd) (p:PS) (r:Nd) (q:PS),va T e n nd p=some (r,q)→∃ k,wt r=wt nd+k∧Go1 T p q k
 | 0,_,_,_,_,h=>by cases h
 | n+1,nd,p,r,q,h=>by
  unfold va at h;simp only[xoB] at h;obtain⟨t,hl,h⟩:=h;split at h
  ·simp only[xoB,xpX] at h;obtain⟨t',p1,h1,h2⟩:=h;obtain⟨g1,_,g2⟩:=ZZ h1;rw[hl] at g1;cases g1;obtain⟨k,h3,h4⟩:=nQ he n _ _ _ _ h2;rw[Ye,Qk] at h3;exact⟨1+t.text.length+k,by simp[Xt] at h3;omega,(g2 (by omega)).trans h4 (by omega)⟩
  ·simp only[xoB] at h;obtain⟨b,_,h⟩:=h;split at h
   ·simp only[xoB,xpX] at h;obtain⟨c,p1,h1,h2⟩:=h;have:=pm he h1;obtain⟨k,h3,h4⟩:=nQ he n _ _ _ _ h2;rw[Ye] at h3;exact⟨wt c+k,by omega,this.trans h4 (by omega)⟩
   ·cases h;exact⟨0,by omega,.refl⟩
theorem tC:∀ n,YZ T (F3 T n)
 | 0=>fun _ _ _ h=>by cases h
 | n+1=>by
  intro p nd q h;unfold F3 bQ at h;simp only[xoB,xpX] at h;obtain⟨t,p1,h1,h2⟩:=h;obtain⟨k,h3,h4⟩:=nQ (tC n) _ _ _ _ _ h2;rw[Qk] at h3;exact (Ki (by decide) h1).trans h4 (by simp[Xt] at h3;omega)
theorem nS{e:PM Nd}(he:YZ T e):∀ (n:Nat) (m:Bool) (nd:Nd) (p:PS) (r:Nd) (q:PS),U1 T e n m nd p=some (r,q)→∃ k,wt r=wt nd+k∧Go1 T p q k
 | 0,_,_,_,_,_,h=>by cases h
 | n+1,m,nd,p,r,q,h=>by
  unfold U1 at h;split at h
  ·simp only[xoB,xpX] at h;obtain⟨p1,h1,c,p2,h2,b,p3,h3,h4⟩:=h;obtain⟨k,h5,h6⟩:=nS he n _ _ _ _ _ h4;rw[Ye] at h5;have g2:=DW he _ _ _ h2;have g3:=Vs h3;exact⟨wt c+k,by omega,(VG h1).trans (g2.trans (g3.trans h6 (Nat.le_refl _)) (Nat.le_refl _)) (by omega)⟩
  ·cases h;exact⟨0,by omega,.refl⟩
theorem rr{e:PM Nd}(he:YZ T e):YZ T (E8 T e):=by
 intro p nd q h;unfold E8 at h;simp only[xoB,xpX] at h;obtain⟨t,p1,h1,b,p2,h2,h⟩:=h;have g1:=Ki (by decide) h1;have g2:=Vs h2;split at h
 ·obtain⟨k,h5,h6⟩:=nS he _ _ _ _ _ _ h;rw[Qk] at h5;exact g1.trans (g2.trans h6 (Nat.le_refl _)) (by simp[Xt] at h5;omega)
 ·cases h;exact g1.trans g2 (by simp[Qk,Xt];omega)
theorem vt:∀ (n:Nat) (nd:Nd) (p:PS) (r:Nd) (q:PS),Qx T n nd p=some (r,q)→∃ k,wt r=wt nd+k∧Go1 T p q k
 | 0,_,_,_,_,h=>by cases h
 | n+1,nd,p,r,q,h=>by
  unfold Qx at h;simp only[xoB] at h;obtain⟨t,hl,h⟩:=h;split at h
  ·rename_i hk;simp only[xoB,xpX] at h;obtain⟨p1,h1,t',p2,h2,h3⟩:=h;obtain⟨g1,g0,g2⟩:=ZZ h2;obtain⟨k,h5,h6⟩:=vt n _ _ _ _ h3;rw[xq] at h5;refine⟨t'.text.length+1+k,by omega,?_⟩;unfold ZO at h1;split at h1
   ·exact (Vv (by decide) h1 (t'.text.length+1+k)).trans (g0.trans h6 (Nat.le_refl _)) (Nat.le_add_right _ _)
   ·cases h1;rw[hl] at g1;cases g1;exact (g2 (by omega)).trans h6 (by omega)
  ·cases h;exact⟨0,by omega,.refl⟩
theorem pq{e:PM Nd}(he:YZ T e):∀ (n:Nat) (m:Bool) (nd:Nd) (p:PS) (r:Nd) (q:PS),YP T e n m nd p=some (r,q)→∃ k,wt r=wt nd+k∧Go1 T p q k
 | 0,_,_,_,_,_,h=>by cases h
 | n+1,m,nd,p,r,q,h=>by
  unfold YP at h;split at h
  ·simp only[xoB,xpX] at h;obtain⟨p1,h1,c,p2,h2,b,p3,h3,h4⟩:=h;obtain⟨k,h5,h6⟩:=pq he n _ _ _ _ _ h4;rw[Ye] at h5;have g2:=rr he _ _ _ h2;have g3:=Vs h3;exact⟨wt c+k,by omega,(VG h1).trans (g2.trans (g3.trans h6 (Nat.le_refl _)) (Nat.le_refl _)) (by omega)⟩
  ·cases h;exact⟨0,by omega,.refl⟩
theorem xe{e:PM Nd}(he:YZ T e){p q:PS}{nd:Nd}(h:QS T e p=some (nd,q)):Go1 T p q (wt nd):=by
 unfold QS at h;simp only[xoB,xpX] at h;obtain⟨t0,p0,h0,t,p1,h1,n1,p2,h2,p3,h3,h4⟩:=h;obtain⟨_,g0,_⟩:=ZZ h0;have g1:=Ki (by decide) h1;obtain⟨k,h5,h6⟩:=vt _ _ _ _ _ h2;obtain⟨j,h7,h8⟩:=pq he _ _ _ _ _ _ h4;rw[Qk] at h5;exact g0.trans (g1.trans (h6.trans ((Zo h3).trans h8 (Nat.le_refl _)) (Nat.le_refl _)) (Nat.le_refl _)) (by simp[Xt] at h5;omega)
theorem xZ{e:PM Nd}(he:YZ T e):YZ T (Qo T e):=by
 intro p nd q h;unfold Qo at h;simp only[xoB,xpX] at h;obtain⟨t,hl,b,p1,h1,h⟩:=h;have g1:=Vs h1;split at h
 ·cases h;have hb:b=true:=by assumption
  rw[if_pos hb] at g1;exact g1.le (by simp[Qk,Xt])
 ·simp only[xoB] at h;obtain⟨c,_,h⟩:=h;split at h
  ·exact g1.trans (pm he h) (by omega)
  ·exact g1.trans (fS (by decide) h) (by omega)
theorem yK{e:PM Nd}(he:YZ T e):∀ (n:Nat) (m:Bool) (nd:Nd) (p:PS) (r:Nd) (q:PS),JO T e n m nd p=some (r,q)→∃ k,wt r=wt nd+k∧Go1 T p q k
 | 0,_,_,_,_,_,h=>by cases h
 | n+1,m,nd,p,r,q,h=>by
  unfold JO at h;split at h
  ·simp only[xoB] at h;obtain⟨b,_,h⟩:=h;split at h
   ·simp only[xoB,xpX] at h;obtain⟨p1,h1,c,p2,h2,h4⟩:=h;obtain⟨k,h5,h6⟩:=yK he n _ _ _ _ _ h4;rw[Ye] at h5;exact⟨wt c+k,by omega,(VG h1).trans ((xZ he _ _ _ h2).trans h6 (Nat.le_refl _)) (by omega)⟩
   ·cases h;exact⟨0,by omega,.refl⟩
  ·cases h;exact⟨0,by omega,.refl⟩
theorem GK:∀ n,YZ T (Qq T n)
 | 0=>fun _ _ _ h=>by cases h
 | n+1=>by
  intro p nd q h;unfold Qq HW at h;simp only[xoB,xpX] at h;obtain⟨t,hl,r,p1,h1,h2⟩:=h;obtain⟨k,h3,h4⟩:=yK (GK n) _ _ _ _ _ _ h2;exact (xZ (GK n) _ _ _ h1).trans h4 (by omega)
theorem Hu{e:PM Nd}(he:YZ T e):YZ T (Q4 T e):=by
 intro p nd q h;unfold Q4 at h;simp only[xoM,xpX,xpJ] at h;obtain⟨r,p1,h1,rfl,rfl⟩:=h;have:=DW he _ _ _ h1;exact fun x=>this x
theorem wA{e pt:PM Nd}(he:YZ T e)(hp:YZ T pt):∀ (n:Nat) (m:Bool) (nd:Nd) (p:PS) (r:Nd) (q:PS),QR T e pt n m nd p=some (r,q)→∃ k,wt r=wt nd+k∧Go1 T p q k
 | 0,_,_,_,_,_,h=>by cases h
 | n+1,m,nd,p,r,q,h=>by
  unfold QR at h;simp only[xoB] at h;obtain⟨b,_,h⟩:=h;split at h
  ·simp only[xoB,xpX] at h;obtain⟨p1,h1,p2,h2,c,p3,h3,p4,h4,d,p5,h5,h6⟩:=h;obtain⟨k,h7,h8⟩:=wA he hp n _ _ _ _ _ h6;rw[yx] at h7;simp only[Xt] at h7;exact⟨wt c+wt d+k,by omega,(VG h1).trans ((Zo h2).trans ((DW hp _ _ _ h3).trans ((Zo h4).trans ((Hu he _ _ _ h5).trans h8 (Nat.le_refl _)) (Nat.le_refl _)) (Nat.le_refl _)) (Nat.le_refl _)) (by omega)⟩
  ·cases h;exact⟨0,by omega,.refl⟩
theorem oJ{e pt:PM Nd}(he:YZ T e)(hp:YZ T pt):YZ T (Y1 T e pt):=by
 intro p nd q h;unfold Y1 at h;simp only[xoB,xoM,xpX,xpJ] at h;obtain⟨t,p1,h1,c,p2,h2,p3,h3,r,p4,h4,p5,h5,rfl,rfl⟩:=h;obtain⟨_,g0,_⟩:=ZZ h1;obtain⟨k,h7,h8⟩:=wA he hp _ _ _ _ _ _ h4;rw[Qk] at h7;simp only[Xt,xlN] at h7;exact g0.trans ((Hu he _ _ _ h2).trans ((Zo h3).trans (h8.trans (Zo h5) (Nat.le_refl _)) (Nat.le_refl _)) (Nat.le_refl _)) (by omega)
theorem Om{e:PM Nd}(he:YZ T e):YZ T (Hm T e):=by
 intro p nd q h;unfold Hm at h;simp only[xoB,xoM,xpX,xpJ] at h;obtain⟨t,p1,h1,c,p2,h2,p3,h3,u,p4,h4,p5,h5,d,p6,h6,p7,h7,rfl,rfl⟩:=h;obtain⟨_,g0,_⟩:=ZZ h1;exact g0.trans ((Hu he _ _ _ h2).trans ((Zo h3).trans ((Ki (by decide) h4).trans ((Zo h5).trans ((Hu he _ _ _ h6).trans (Zo h7) (Nat.le_refl _)) (Nat.le_refl _)) (Nat.le_refl _)) (Nat.le_refl _)) (Nat.le_refl _)) (by simp[Qk,Xt];omega)
theorem L9{e pt:PM Nd}(he:YZ T e)(hp:YZ T pt):YZ T (ZL T e pt):=by
 intro p nd q h;unfold ZL at h;simp only[xoB] at h;obtain⟨t,hl,h⟩:=h;split at h
 ·exact oJ he hp _ _ _ h
 split at h
 ·exact Om he _ _ _ h
 split at h
 ·simp only[xoM,xpX,xpJ] at h;obtain⟨t',p1,h1,rfl,rfl⟩:=h;obtain⟨g1,_,g2⟩:=ZZ h1;rw[hl] at g1;cases g1;exact (g2 (E6 (by assumption))).le (by simp[Qk,Xt])
 split at h
 ·rename_i hb;simp only[xoB,xpX] at h;obtain⟨t',p1,h1,b,p2,h2,h⟩:=h;obtain⟨g1,_,g2⟩:=ZZ h1;rw[hl] at g1;cases g1;have g2:=(g2 (E6 hb)).le (b:=8) (by omega);split at h
  ·cases h;exact g2.trans (Vs h2) (by simp[Qk,Xt];omega)
  ·simp only[xoB,xoM,xpX,xpJ] at h;obtain⟨c,p3,h3,p4,h4,rfl,rfl⟩:=h;exact g2.trans ((Vs h2).trans ((Hu he _ _ _ h3).trans (Zo h4) (Nat.le_refl _)) (Nat.le_refl _)) (by omega)
 ·exact (fS (by decide) h).le (by omega)
theorem vq{e pt:PM Nd}(he:YZ T e)(hp:YZ T pt):∀ (n:Nat) (nd:Nd) (p:PS) (r:Nd) (q:PS),Xl T e pt n nd p=some (r,q)→∃ k,wt r=wt nd+k∧Go1 T p q k
 | 0,_,_,_,_,h=>by cases h;exact⟨0,by omega,.refl⟩
 | n+1,nd,p,r,q,h=>by
  unfold Xl at h;simp only[xoB,xpX] at h;obtain⟨c,p1,h1,h2⟩:=h;obtain⟨k,h3,h4⟩:=vq he hp n _ _ _ _ h2;rw[Ye] at h3;exact⟨wt c+k,by omega,(L9 he hp _ _ _ h1).trans h4 (by omega)⟩
theorem jB{e pt:PM Nd}(he:YZ T e)(hp:YZ T pt):∀ (n:Nat) (m:Bool) (nd:Nd) (p:PS) (r:Nd) (q:PS),Yp T e pt n m nd p=some (r,q)→∃ k,wt r=wt nd+k∧Go1 T p q k
 | 0,_,_,_,_,_,h=>by cases h
 | n+1,m,nd,p,r,q,h=>by
  unfold Yp at h;simp only[xoB] at h;obtain⟨t,hl,h⟩:=h;split at h
  ·split at h
   ·simp only[xoB,xpX] at h;obtain⟨p1,h1,c,p2,h2,h4⟩:=h;obtain⟨k,h5,h6⟩:=jB he hp n _ _ _ _ _ h4;rw[Ye] at h5;exact⟨wt c+k,by omega,(VG h1).trans ((L9 he hp _ _ _ h2).trans h6 (Nat.le_refl _)) (by omega)⟩
   ·simp only[xoB,xpX] at h;obtain⟨c,p2,h2,h4⟩:=h;obtain⟨k,h5,h6⟩:=jB he hp n _ _ _ _ _ h4;rw[Qk] at h5;simp only[Xt,xlN] at h5;exact⟨wt c+1+k,by omega,(L9 he hp _ _ _ h2).trans h6 (by omega)⟩
  ·cases h;exact⟨0,by omega,.refl⟩
theorem OQ{e pt:PM Nd}(he:YZ T e)(hp:YZ T pt):YZ T (Jf T e pt):=by
 intro p nd q h;unfold Jf at h;simp only[xoB] at h;obtain⟨t,hl,h⟩:=h;split at h
 ·rename_i hk;simp only[xoB,xpX] at h;obtain⟨t',p1,h1,h2⟩:=h;obtain⟨g1,_,g2⟩:=ZZ h1;rw[hl] at g1;cases g1;obtain⟨k,h5,h6⟩:=vq he hp _ _ _ _ _ h2;rw[Qk] at h5;simp only[Xt,xlN] at h5;exact (g2 (by omega)).trans h6 (by omega)
 ·simp only[xoB,xpX] at h;obtain⟨c,p1,h1,h2⟩:=h;obtain⟨k,h5,h6⟩:=jB he hp _ _ _ _ _ _ h2;exact (L9 he hp _ _ _ h1).trans h6 (by omega)
theorem gL{part:PM Nd}(hp:YZ T part)(signs:List Tx):∀ (n:Nat) (t:Tk) (nd:Nd) (p:PS) (r:Nd) (q:PS),zH T p=some t→JW T part signs n t nd p=some (r,q)→∃ k,wt r=wt nd+k∧Go1 T p q k
 | 0,_,_,_,_,_,_,h=>by cases h
 | n+1,t,nd,p,r,q,hl,h=>by
  unfold JW at h;split at h
  ·rename_i hk;simp only[xoB,xpX] at h;obtain⟨t1,p1,h1,c,p2,h2,t2,h3,h4⟩:=h;obtain⟨g1,_,g2⟩:=ZZ h1;rw[hl] at g1;cases g1;obtain⟨k,h5,h6⟩:=gL hp signs n _ _ _ _ _ h3 h4;rw[Qk] at h5;simp only[Xt] at h5;exact⟨wt c+1+t.text.length+k,by omega,(g2 (by omega)).trans ((hp _ _ _ h2).trans h6 (Nat.le_refl _)) (by omega)⟩
  ·cases h;exact⟨0,by omega,.refl⟩
theorem fB{part:PM Nd}(hp:YZ T part)(signs:List Tx):YZ T (JV T part signs):=by
 intro p nd q h;unfold JV at h;simp only[xoB,xpX] at h;obtain⟨c,p1,h1,t,h2,h3⟩:=h;obtain⟨k,h5,h6⟩:=gL hp signs _ _ _ _ _ _ h2 h3;exact (hp _ _ _ h1).trans h6 (by omega)
theorem NT{e pt:PM Nd}(he:YZ T e)(hp:YZ T pt):YZ T (Wn T e pt):=by
 have hs:YZ T (EK T e pt):=fB (fB (OQ he hp) _) _;intro p nd q h;unfold Wn at h;simp only[xoB,xpX] at h;obtain⟨c,p1,h1,t,h2,h⟩:=h;have g1:=hs _ _ _ h1;split at h
 ·rename_i hk;simp only[xoB,xoM,xpX,xpJ] at h;obtain⟨t1,p2,h3,d,p3,h4,rfl,rfl⟩:=h;obtain⟨k1,_,k2⟩:=ZZ h3;rw[h2] at k1;cases k1;exact g1.trans ((k2 (hk.elim E6 E6)).trans (hs _ _ _ h4) (Nat.le_refl _)) (by simp[Qk,Xt];omega)
 ·cases h;exact g1
theorem gM{e:PM Nd}(he:YZ T e){p q:PS}{x:Tx}{b:Bool}{v:Nd}(h:Q2 T e p=some ((x,b,v),q)):Go1 T p q (x.length+wt v+8):=by
 unfold Q2 at h;simp only[xoB,xoM,xpX,xpJ] at h;obtain⟨b',p1,h1,t,p2,h2,p3,h3,p4,h4,w,p5,h5,⟨rfl,rfl,rfl⟩,rfl⟩:=h;have g4:Go1 T p3 p4 0:=by
  split at h4
  ·simp only[xoB] at h4;obtain⟨c,_,h4⟩:=h4;split at h4
   ·cases h4;exact .refl
   ·exact Vv (by decide) h4 0
  ·cases h4;exact .refl
 exact (Vs h1).trans ((Ki (by decide) h2).trans ((Zo h3).trans (g4.trans (DW he _ _ _ h5) (Nat.le_refl _)) (Nat.le_refl _)) (Nat.le_refl _)) (by omega)
theorem sZ{e pt:PM Nd}(he:YZ T e)(hp:YZ T pt):YZ T (JZ T e pt):=by
 intro p nd q h;unfold JZ at h;simp only[xoB] at h;obtain⟨t,hl,h⟩:=h;split at h
 ·unfold B9 at h;simp only[xoB,xoM,xpX,xpJ] at h;obtain⟨t0,p1,h1,x,b,v,p2,h2,p3,h3,c,p4,h4,rfl,rfl⟩:=h;obtain⟨_,g0,_⟩:=ZZ h1;exact g0.trans ((gM he h2).trans ((Zo h3).trans (DW he _ _ _ h4) (Nat.le_refl _)) (Nat.le_refl _)) (by simp[Qk,Xt];omega)
 split at h
 ·unfold Fl at h;simp only[xoB,xoM,xpX,xpJ] at h;obtain⟨t0,p1,h1,x,p2,h2,p3,h3,c,p4,h4,rfl,rfl⟩:=h;obtain⟨_,g0,_⟩:=ZZ h1;exact g0.trans ((Ki (by decide) h2).trans ((Zo h3).trans (DW he _ _ _ h4) (Nat.le_refl _)) (Nat.le_refl _)) (by simp[Qk,Xt];omega)
 split at h
 ·unfold JD at h;simp only[xoB,xoM,xpX,xpJ] at h;obtain⟨t0,p1,h1,c,p2,h2,p3,h3,d,p4,h4,p5,h5,f,p6,h6,rfl,rfl⟩:=h;obtain⟨_,g0,_⟩:=ZZ h1;exact g0.trans ((DW he _ _ _ h2).trans ((Zo h3).trans ((DW he _ _ _ h4).trans ((Zo h5).trans (DW he _ _ _ h6) (Nat.le_refl _)) (Nat.le_refl _)) (Nat.le_refl _)) (Nat.le_refl _)) (by simp[Qk,Xt];omega)
 ·simp only[xoB,xpX] at h;obtain⟨c,p1,h1,b,p2,h2,h⟩:=h;have g1:=NT he hp _ _ _ h1;have g2:Go1 T p1 p2 (if b=true then 8 else 0):=by
   split at h2
   ·cases h2;exact .refl
   ·exact Vs h2
  split at h
  ·rename_i hb;have hb:b=true:=hb;rw[if_pos hb] at g2;simp only[xoM,xpX,xpJ] at h;obtain⟨d,p3,h3,rfl,rfl⟩:=h;exact g1.trans (g2.trans (DW he _ _ _ h3) (Nat.le_refl _)) (by simp[Qk,Xt];omega)
  ·cases h;exact g1.trans g2 (by omega)
theorem Bx:∀ n,YZ T (Qf T n)
 | 0=>fun _ _ _ h=>by cases h
 | n+1=>sZ (Bx n) (GK (n+1))
theorem tS{e ty:PM Nd}(he:YZ T e)(ht:YZ T ty):YZ T (Y7 T e ty):=by
 intro p nd q h;unfold Y7 at h;simp only[xoB,xoM,xpX,xpJ] at h;obtain⟨b,_,c,p1,h1,p2,h2,rfl,rfl⟩:=h;have g2:=Zo h2;split at h1
 ·exact (xe ht h1).trans g2 (by omega)
 ·simp only[xoB,xoM,xpX,xpJ] at h1;obtain⟨t,p3,h3,x,b',v,p4,h4,rfl,rfl⟩:=h1;obtain⟨_,g0,_⟩:=ZZ h3;have g4:=gM he h4;have g5:Go1 T p3 p4 (x.length+wt v+8):=fun z=>g4 z;have g6:Go1 T p4 p2 8:=fun z=>g2 z;exact g0.trans (g5.trans g6 (Nat.le_refl _)) (by simp[Qk,Xt];omega)
theorem xW{e ty:PM Nd}(he:YZ T e)(ht:YZ T ty):∀ (n:Nat) (nd:Nd) (p:PS) (r:Nd) (q:PS),YV T e ty n nd p=some (r,q)→∃ k,wt r=wt nd+k∧Go1 T p q k
 | 0,_,_,_,_,h=>by cases h
 | n+1,nd,p,r,q,h=>by
  unfold YV at h;simp only[xoB] at h;obtain⟨a,_,b,_,h⟩:=h;split at h
  ·simp only[xoB,xpX] at h;obtain⟨p1,h1,c,p2,h2,h4⟩:=h;obtain⟨k,h5,h6⟩:=xW he ht n _ _ _ _ h4;rw[Ye] at h5;exact⟨wt c+k,by omega,(VG h1).trans ((tS he ht _ _ _ h2).trans h6 (Nat.le_refl _)) (by omega)⟩
  ·cases h;exact⟨0,by omega,.refl⟩
theorem A7(T:List Tk)(i N:Nat)(h:∀ t∈T,t.text.length≤N):wq T i≤T.length*(N+8):=by
 unfold wq;have key:∀ l:List Tk,(∀ t∈l,t.text.length≤N)→(l.map fun t=>t.text.length+8).sum≤l.length*(N+8):=by
  intro l hl;induction l with
  | nil=>simp
  | cons a r ih =>
   have h1:=ih fun t ht=>hl t (List.mem_cons_of_mem _ ht);have h2:=hl a List.mem_cons_self;rw[List.map_cons,List.sum_cons,xlC,Nat.add_mul];omega
 have h1:=key (T.take i) fun t ht=>h t (List.mem_of_mem_take ht);refine Nat.le_trans h1 (Nat.mul_le_mul_right _ ?_);rw[List.length_take];exact Nat.min_le_right _ _
theorem dz{n:Nd}{a:Int}{N:Nat}(h:YI T=some (n,a,0))(hN:∀ t∈T,t.text.length≤N):wt n≤T.length*(N+8)+1:=by
 unfold YI at h;simp only[xoM,xpX] at h;obtain⟨r,q,h,hr⟩:=h;unfold KA at h;simp only[xoB,xoM,xpX,xpJ] at h;obtain⟨t,k1,x,p1,k2,p2,k3,u,p3,k4,t',k5,p4,k6,rfl,rfl⟩:=h;split at hr
 ·rename_i z;cases hr;obtain⟨k,h5,h6⟩:=xW (Bx 42) (tC 42) _ _ _ _ _ k2;rw[Qk] at h5;simp only[Xt,xlN] at h5;have g6:Go1 T p3 p4 0:=by
   split at k6
   ·exact Vv (by decide) k6 0
   ·cases k6;exact .refl
  have:=(h6.trans ((Zo k3).trans ((DW (Bx 42) _ _ _ k4).trans g6 (Nat.le_refl _)) (Nat.le_refl _)) (Nat.le_refl _)) z;have h8:=A7 T p4.pos N hN;rw[Ye];omega
 ·rename_i z;simp only[xpJ] at hr;exact absurd hr.2.2 z
end Go.AL
