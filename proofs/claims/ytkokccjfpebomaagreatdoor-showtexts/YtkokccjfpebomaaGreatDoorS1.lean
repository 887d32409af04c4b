/- What show.Program computes, as plain functions. -/
import Derived.Test.YtkokccjfpebomaaGreatDoorK5
set_option linter.all false
namespace Go.AL
def qF:List Tx→Tx
 | []=>[]
 | [a]=>a
 | a::b::r=>a++32::qF (b::r)
def qM(k:Int):Tx :=
 if k=15 then [112,114,105,110,116] else if k=16 then [114,97,105,115,101] else if k=17 then [115,112,97,119,110] else if k=18 then [97,116,111,109,105,99,97,108,108,121] else if k=21 then [116,118,97,114]
 else if k=22 then [114,101,97,100] else if k=23 then [119,114,105,116,101] else if k=20 then [111,114,101,108,115,101] else []
def ZD(t:Tx):Int:=if t=[61]∨t=[60] then 5 else if t=[43]∨t=[45]∨t=[94] then 4 else 3
def qO(n:Nd):Int :=
 if n.kind=14 then 7 else if n.kind=8∨n.kind=9∨n.kind=6∨n.kind=10 then 6 else if n.kind=13 then ZD n.text
 else if n.kind=7 then 1 else if n.kind=5 then (if 0<n.kids.length then 2 else 0) else if qM n.kind≠[] then 2 else 0
def qa(n:Nd):Bool :=
 decide ((if n.kind=10 then 3 else if n.kind=7∨n.kind=8∨n.kind=9∨n.kind=12∨n.kind=13∨n.kind=14 then 2
  else if n.kind=6∨n.kind=11∨n.kind=28∨n.kind=29 then 1 else 0)≤n.kids.length)
def W5:Nat→Int→Tx→Tx
 | 0,_,acc=>acc
 | k+1,n,acc=>let acc:=UInt8.ofNat (48+(Int.tmod n 10).natAbs)::acc
  if Int.tdiv n 10=0 then acc else W5 k (Int.tdiv n 10) acc
def ZW(n:Int):Int:=Int.bmod n 9223372036854775808
def X8(n:Int):Tx:=(if ZW n<0 then [45] else [])++W5 20 (ZW n) []
def YL(c:UInt8):UInt8:=hexL.getD c.toNat 0
def qB(c:UInt8):Tx:=if YB c then [c] else if c=10 then [92,110] else if c=34∨c=92 then [92,c] else [92,120,YL (c >>> 4),YL (c &&& 15)]
def X'(s:Tx):Tx:=34::(s.flatMap qB++[34])
section
variable (T:Nd→Int→Tx)
def zg(n:Nd)(most loose:Int):Tx:=if most<qO n∨n.kind=5∧most=1 then qF [[40],T n 7,[41]] else T n loose
def XJ(loose:Int):Tx→List Nd→Tx
 | w,[]=>w
 | w,k::r=>XJ loose (qF [w,zg T k 0 loose]) r
def kid(n:Nd)(i:Nat):Nd:=n.kids.getD i VQ
def bq(n:Nd)(loose:Int):Tx :=
 let l:Int:=if ZD n.text=5 then 4 else ZD n.text
 let r:Int:=if ZD n.text=5 then 4 else ZD n.text-1
 qF [zg T (kid n 0) l loose,n.text,zg T (kid n 1) r loose]
def Z'(w:Tx)(n:Nd)(loose:Int):Tx:=qF [w,n.text,[61],zg T (kid n 0) loose loose]
def Yi:Tx→List Nd→Tx
 | s,a::b::r=>Yi (s++qF [[32,124],T a 7,[45,62],zg T b 7 7]) r
 | s,_=>s
def QE(n:Nd)(loose:Int):Tx :=
 if qa n=false then [36] else if qM n.kind≠[] then XJ T loose (qM n.kind) n.kids
 else if n.kind=1 then X8 n.num else if n.kind=2 then X' n.text else if n.kind=3 then [40,32,41]
 else if n.kind=4∨n.kind=5∨n.kind=27 then XJ T loose n.text n.kids
 else if n.kind=24 then [95] else if n.kind=19 then [114,101,116,114,121]
 else if n.kind=6 then qF [[102,117,110],n.text,[45,62],zg T (kid n 0) loose loose]
 else if n.kind=7 then qF [zg T (kid n 0) 1 loose,zg T (kid n 1) 0 loose]
 else if n.kind=8 then qF [Z' T [108,101,116] n loose,[105,110],zg T (kid n 1) loose loose]
 else if n.kind=9 then qF [Z' T [108,101,116,32,114,101,99] n loose,[105,110],zg T (kid n 1) loose loose]
 else if n.kind=10 then qF [[105,102],zg T (kid n 0) loose loose,[116,104,101,110],zg T (kid n 1) loose loose,[101,108,115,101],zg T (kid n 2) loose loose]
 else if n.kind=11 then qF [[109,97,116,99,104],zg T (kid n 0) 7 7,[119,105,116,104]]++Yi T [] n.kids.tail++[32,101,110,100]
 else if n.kind=12 then qF [[116,114,121],zg T (kid n 0) 7 7,[119,105,116,104],n.text,[45,62],zg T (kid n 1) 7 7,[101,110,100]]
 else if n.kind=13 then bq T n loose
 else if n.kind=14 then qF [zg T (kid n 0) 5 loose,[59],zg T (kid n 1) 7 7]
 else [36]
end
def zn:Nat→Nd→Int→Tx
 | 0=>fun _ _=>[]
 | d+1=>QE (zn d)
def XM(T:Nd→Tx):Tx→List Nd→Tx
 | s,[]=>s
 | s,k::r=>XM T (if 0<k.kids.length then qF [s,[40],T k,[41]] else qF [s,T k]) r
def qk:Nat→Nd→Tx
 | 0=>fun _=>[]
 | d+1=>fun n=>XM (qk d) n.text n.kids
def V1(T:Nd→Tx):Nat→Tx→List Nd→Tx
 | _,s,[]=>s
 | i,s,k::r=>V1 T (i+1) (qF [s,if i=0 then [111,102] else [44],T k]) r
def KD(d:Nat)(n:Nd):Tx:=V1 (qk d) 0 n.text n.kids
def YH(d:Nat):Nat→Tx→List Nd→Tx
 | _,s,[]=>s
 | i,s,k::r=>YH d (i+1) (qF [if 0<i then qF [s,[124]] else s,KD d k]) r
def ZU(d:Nat)(n:Nd):Tx :=
 if n.kind=28∧qa n=true then Z' (zn d) [108,101,116] n 6
 else if n.kind=29∧qa n=true then Z' (zn d) [108,101,116,32,114,101,99] n 6
 else if n.kind≠25 then [36]
 else YH d 0 (qF (([[116,121,112,101],n.text]++n.names)++[[61]])) n.kids
def Xt(d:Nat):Tx→List Nd→Tx
 | s,[]=>s
 | s,k::r=>Xt d (s++qF [ZU d k,[59,32]]) r
def Zj(d:Nat)(n:Nd):Tx:=Xt d [] n.kids.dropLast++qF [[100,111],zg (zn d) (n.kids.getLastD VQ) 7 7]
end Go.AL
namespace Go.AL
inductive Dep:Nat→Nd→Prop where
 | mk (d:Nat) (n:Nd) (h:∀ c∈n.kids,Dep d c):Dep (d+1) n
theorem Dep.kids{d:Nat}{n:Nd}(h:Dep (d+1) n):∀ c∈n.kids,Dep d c:=by cases h;assumption
theorem Dep.pos{d:Nat}{n:Nd}(h:Dep d n):∃ k,d=k+1:=by cases h;exact⟨_,rfl⟩
theorem Dep.mono{d:Nat}{n:Nd}(h:Dep d n):∀ {k:Nat},d≤k→Dep k n:=by
 induction h with
 | mk d n h ih =>
  intro k hk;obtain⟨j,rfl⟩:∃ j,k=j+1:=⟨k-1,by omega⟩;exact .mk _ _ fun c hc=>ih c hc (by omega)
mutual
theorem mK:∀ n:Nd,∃ d,Dep d n
 | .mk k t m a ns ks=>by
  obtain⟨d,h⟩:=yC ks;exact⟨d+1,.mk _ _ h⟩
theorem yC:∀ l:List Nd,∃ d,∀ c∈l,Dep d c
 | []=>⟨0,fun c hc=>by cases hc⟩
 | n::r=>by
  obtain⟨d,h⟩:=mK n;obtain⟨e,g⟩:=yC r;refine⟨d+e,fun c hc=>?_⟩;rcases List.mem_cons.1 hc with rfl | hc
  ·exact h.mono (Nat.le_add_right _ _)
  ·exact (g c hc).mono (Nat.le_add_left _ _)
end
theorem BA{a b:Nd}(h:Z3 a b=true):a.kids.length=b.kids.length:=Uw (WO h).2.2.2.2
section
variable {T U:Nd→Int→Tx}
end
end Go.AL
namespace Go.AL
def YD(l:List Tx):Nat:=(l.map fun s=>s.length+1).sum
mutual
def wt:Nd→Nat
 | .mk _ t _ _ ns ks=>1+t.length+YD ns+Xq ks
def Xq:List Nd→Nat
 | []=>0
 | n::r=>wt n+Xq r
end
theorem U6(n:Nd):wt n=1+n.text.length+YD n.names+Xq n.kids:=by cases n;rfl
inductive Fit:Nd→Prop where
 | mk (n:Nd) (h:∀ c∈n.kids,Fit c) (h1:n.kids.length≤100000) (h2:n.names.length≤100000) (h3:n.text.length≤100000):Fit n
theorem Fit.kids{n:Nd}(h:Fit n):(∀ c∈n.kids,Fit c)∧n.kids.length≤100000∧n.names.length≤100000∧n.text.length≤100000:=by cases h with | mk _ h h1 h2 h3=>exact⟨h,h1,h2,h3⟩
theorem yM:∀ l:List Nd,l.length≤Xq l
 | []=>Nat.le_refl _
 | n::r=>by
  have:=yM r;have:=U6 n;simp only[Xq,xlC];omega
theorem kS(l:List Tx):l.length≤YD l:=by
 induction l with
 | nil=>simp[YD]
 | cons a r ih=>simp[YD] at ih ⊢;omega
mutual
theorem ny:∀ n:Nd,wt n≤100000→Fit n
 | .mk k t m a ns ks,h=>by
  have hw:=U6 (.mk k t m a ns ks);have h1:=yM ks;have h2:=kS ns;simp only[Nd.text,Nd.names,Nd.kids] at hw;exact .mk _ (yN ks (by omega)) (by simp only[Nd.kids];omega) (by simp only[Nd.names];omega) (by simp only[Nd.text];omega)
theorem yN:∀ l:List Nd,Xq l≤100000→∀ c∈l,Fit c
 | [],_,c,hc=>by cases hc
 | n::r,h,c,hc=>by
  simp only[Xq] at h;have h1:wt n≤100000:=by omega
  have h2:Xq r≤100000:=by omega
  rcases List.mem_cons.1 hc with e | hc
  ·rw[e];exact ny n h1
  ·exact yN r h2 c hc
end
theorem q8(a b:Tx):(qF [a,b]).length=a.length+b.length+1:=by simp[qF];omega
theorem qU(a b c:Tx):(qF [a,b,c]).length=a.length+b.length+c.length+2:=by simp[qF];omega
theorem ZF(a b c d:Tx):(qF [a,b,c,d]).length=a.length+b.length+c.length+d.length+3:=by simp[qF];omega
theorem Gg(a b c d e f:Tx):(qF [a,b,c,d,e,f]).length=a.length+b.length+c.length+d.length+e.length+f.length+5:=by simp[qF];omega
theorem GO(a b c d e f g:Tx):(qF [a,b,c,d,e,f,g]).length=a.length+b.length+c.length+d.length+e.length+f.length+g.length+6:=by simp[qF];omega
theorem yf:∀ (k:Nat) (n:Int) (acc:Tx),(W5 k n acc).length≤k+acc.length
 | 0,_,acc=>by simp[W5]
 | k+1,n,acc=>by
  unfold W5;dsimp only;split
  ·simp;omega
  ·have:=yf k (Int.tdiv n 10) (UInt8.ofNat (48+(Int.tmod n 10).natAbs)::acc);rw[xlC] at this;omega
theorem nR(n:Int):(X8 n).length≤21:=by
 unfold X8;have:=yf 20 (ZW n) [];rw[xlA];split <;> simp at this ⊢ <;> omega
theorem pm(s:Tx):(X' s).length≤2+4*s.length:=by
 have h:∀ s:Tx,(s.flatMap qB).length≤4*s.length:=by
  intro s;induction s with
  | nil=>simp
  | cons c r ih =>
   have hc:(qB c).length≤4:=by
    unfold qB;repeat' split
    all_goals simp
   rw[List.flatMap_cons,xlA,xlC];omega
 have:=h s;unfold X';simp only[xlC,xlA,xlN];omega
theorem yS(k:Int):(qM k).length≤10:=by
 unfold qM;repeat' split
 all_goals simp
section
variable {T:Nd→Int→Tx}
def TB(T:Nd→Int→Tx):Prop:=∀ n l,(T n l).length+20≤60*wt n
theorem Jp(hT:TB T)(n:Nd)(m l:Int):(zg T n m l).length+16≤60*wt n:=by
 have h7:=hT n 7;have hl:=hT n l;unfold zg;split
 ·rw[qU];simp only[xlC,xlN];omega
 ·omega
theorem GT(hT:TB T)(l:Int):∀ (ks:List Nd) (w:Tx),(XJ T l w ks).length≤w.length+60*Xq ks
 | [],w=>by simp[XJ,Xq]
 | k::r,w=>by
  have h:=GT hT l r (qF [w,zg T k 0 l]);have:=Jp hT k 0 l;rw[q8] at h;show (XJ T l _ r).length≤_+60*(wt k+Xq r);omega
theorem jK(hT:TB T):∀ (ks:List Nd) (w:Tx),(Yi T w ks).length≤w.length+60*Xq ks
 | [],w=>by simp[Yi,Xq]
 | [a],w=>by simp[Yi,Xq]
 | a::b::r,w=>by
  have h:=jK hT r (w++qF [[32,124],T a 7,[45,62],zg T b 7 7]);have h1:=hT a 7;have h2:=Jp hT b 7 7;rw[xlA,ZF] at h;simp only[xlC,xlN] at h;show (Yi T _ r).length≤_+60*(wt a+(wt b+Xq r));omega
theorem GM{n:Nd}(h:1≤n.kids.length):wt (kid n 0)≤Xq n.kids:=by
 unfold kid;match n.kids,h with
 | a::r,_=>exact Nat.le_add_right _ _
theorem VP{n:Nd}(h:2≤n.kids.length):wt (kid n 0)+wt (kid n 1)≤Xq n.kids:=by
 unfold kid;match n.kids,h with
 | a::b::r,_=>simp only[Xq,List.getD_cons_zero,xgS];omega
theorem pT{n:Nd}(h:3≤n.kids.length):wt (kid n 0)+wt (kid n 1)+wt (kid n 2)≤Xq n.kids:=by
 unfold kid;match n.kids,h with
 | a::b::c::r,_=>simp only[Xq,List.getD_cons_zero,xgS];omega
theorem mS{n:Nd}(h:1≤n.kids.length):wt (kid n 0)+Xq n.kids.tail≤Xq n.kids:=by
 unfold kid;match n.kids,h with
 | a::r,_=>simp[Xq]
theorem xp(hT:TB T):TB (QE T):=by
 intro n l;have hw:=U6 n;have W:=fun k m l=>Jp hT k m l;have hk:=yS n.kind;unfold QE;by_cases c:qa n=false
 ·rw[if_pos c];simp only[xlC,xlN];omega
 rw[if_neg c];have hm:qa n=true:=by simpa using c
 unfold qa at hm;by_cases c:qM n.kind≠[]
 ·rw[if_pos c];have:=GT hT l n.kids (qM n.kind);omega
 rw[if_neg c];clear c;by_cases c:n.kind=1
 ·rw[if_pos c];have:=nR n.num;omega
 rw[if_neg c];clear c;by_cases c:n.kind=2
 ·rw[if_pos c];have:=pm n.text;omega
 rw[if_neg c];clear c;by_cases c:n.kind=3
 ·rw[if_pos c];simp only[xlC,xlN];omega
 rw[if_neg c];clear c;by_cases c:n.kind=4∨n.kind=5∨n.kind=27
 ·rw[if_pos c];have:=GT hT l n.kids n.text;omega
 rw[if_neg c];clear c;by_cases c:n.kind=24
 ·rw[if_pos c];simp only[xlC,xlN];omega
 rw[if_neg c];clear c;by_cases c:n.kind=19
 ·rw[if_pos c];simp only[xlC,xlN];omega
 rw[if_neg c];clear c;by_cases c:n.kind=6
 ·rw[if_pos c];simp only[c] at hm;have:=GM (n:=n) (by simpa using hm);have:=W (kid n 0) l l;rw[ZF];simp only[xlC,xlN];omega
 rw[if_neg c];clear c;by_cases c:n.kind=7
 ·rw[if_pos c];simp only[c] at hm;have:=VP (n:=n) (by simpa using hm);have:=W (kid n 0) 1 l;have:=W (kid n 1) 0 l;rw[q8];omega
 rw[if_neg c];clear c;by_cases c:n.kind=8
 ·rw[if_pos c];simp only[c] at hm;have:=VP (n:=n) (by simpa using hm);have:=W (kid n 0) l l;have:=W (kid n 1) l l;unfold Z';rw[qU,ZF];simp only[xlC,xlN];omega
 rw[if_neg c];clear c;by_cases c:n.kind=9
 ·rw[if_pos c];simp only[c] at hm;have:=VP (n:=n) (by simpa using hm);have:=W (kid n 0) l l;have:=W (kid n 1) l l;unfold Z';rw[qU,ZF];simp only[xlC,xlN];omega
 rw[if_neg c];clear c;by_cases c:n.kind=10
 ·rw[if_pos c];simp only[c] at hm;have:=pT (n:=n) (by simpa using hm);have:=W (kid n 0) l l;have:=W (kid n 1) l l;have:=W (kid n 2) l l;rw[Gg];simp only[xlC,xlN];omega
 rw[if_neg c];clear c;by_cases c:n.kind=11
 ·rw[if_pos c];simp only[c] at hm;have:=mS (n:=n) (by simpa using hm);have:=W (kid n 0) 7 7;have:=jK hT n.kids.tail [];rw[xlA,xlA,qU];simp only[xlC,xlN] at this ⊢;omega
 rw[if_neg c];clear c;by_cases c:n.kind=12
 ·rw[if_pos c];simp only[c] at hm;have:=VP (n:=n) (by simpa using hm);have:=W (kid n 0) 7 7;have:=W (kid n 1) 7 7;rw[GO];simp only[xlC,xlN];omega
 rw[if_neg c];clear c;by_cases c:n.kind=13
 ·rw[if_pos c];simp only[c] at hm;have:=VP (n:=n) (by simpa using hm);have:=W (kid n 0) (if ZD n.text=5 then 4 else ZD n.text) l;have:=W (kid n 1) (if ZD n.text=5 then 4 else ZD n.text-1) l;unfold bq;dsimp only;rw[qU];omega
 rw[if_neg c];clear c;by_cases c:n.kind=14
 ·rw[if_pos c];simp only[c] at hm;have:=VP (n:=n) (by simpa using hm);have:=W (kid n 0) 5 l;have:=W (kid n 1) 7 7;rw[qU];simp only[xlC,xlN];omega
 rw[if_neg c];clear c;simp only[xlC,xlN];omega
end
theorem UK:∀ d,TB (zn d)
 | 0=>fun n l=>by have:=U6 n;simp[zn];omega
 | d+1=>xp (UK d)
theorem DO{T:Nd→Tx}(hT:∀ n,(T n).length+20≤60*wt n):∀ (ks:List Nd) (w:Tx),(XM T w ks).length≤w.length+60*Xq ks
 | [],w=>by simp[XM,Xq]
 | k::r,w=>by
  have h1:=hT k;have h:=DO hT r (if 0<k.kids.length then qF [w,[40],T k,[41]] else qF [w,T k]);show (XM T _ r).length≤_+60*(wt k+Xq r);split at h
  ·rw[ZF] at h;simp only[xlC,xlN] at h;rw[if_pos (by assumption)];omega
  ·rw[q8] at h;rw[if_neg (by assumption)];omega
theorem BR:∀ d n,(qk d n).length+20≤60*wt n
 | 0,n=>by have:=U6 n;simp[qk];omega
 | d+1,n=>by
  have:=DO (BR d) n.kids n.text;have:=U6 n;show (XM (qk d) n.text n.kids).length+20≤_;omega
theorem kg{T:Nd→Tx}(hT:∀ n,(T n).length+20≤60*wt n):∀ (ks:List Nd) (i:Nat) (w:Tx),(V1 T i w ks).length≤w.length+60*Xq ks
 | [],_,w=>by simp[V1,Xq]
 | k::r,i,w=>by
  have h1:=hT k;have h:=kg hT r (i+1) (qF [w,if i=0 then [111,102] else [44],T k]);have h2:(if i=0 then [111,102] else [44]:Tx).length≤2:=by split <;> simp
  show (V1 T _ _ r).length≤_+60*(wt k+Xq r);rw[qU] at h;omega
theorem oH(d:Nat)(n:Nd):(KD d n).length+20≤60*wt n:=by
 have:=kg (BR d) n.kids 0 n.text;have:=U6 n;unfold KD;omega
theorem ww(d:Nat):∀ (ks:List Nd) (i:Nat) (w:Tx),(YH d i w ks).length≤w.length+60*Xq ks
 | [],_,w=>by simp[YH,Xq]
 | k::r,i,w=>by
  have h1:=oH d k;have h:=ww d r (i+1) (qF [if 0<i then qF [w,[124]] else w,KD d k]);have h2:(if 0<i then qF [w,[124]] else w:Tx).length≤w.length+2:=by split <;> simp[q8]
  show (YH d _ _ r).length≤_+60*(wt k+Xq r);rw[q8] at h;omega
theorem BO:∀ (l:List Tx) (z:Tx),(qF (l++[z])).length=YD l+z.length
 | [],z=>by simp[qF,YD]
 | [a],z=>by simp[qF,YD];omega
 | a::b::r,z=>by
  have:=BO (b::r) z;show (a++32::qF (b::r++[z])).length=_;rw[xlA,xlC,this];simp[YD];omega
theorem dm(d:Nat)(n:Nd):(ZU d n).length+20≤60*wt n:=by
 have hw:=U6 n;unfold ZU;split
 ·rename_i h;have hm:=h.2;unfold qa at hm;simp only[h.1] at hm;have:=GM (n:=n) (by simpa using hm);have:=Jp (UK d) (kid n 0) 6 6;unfold Z';rw[ZF];simp only[xlC,xlN];omega
 split
 ·rename_i h;have hm:=h.2;unfold qa at hm;simp only[h.1] at hm;have:=GM (n:=n) (by simpa using hm);have:=Jp (UK d) (kid n 0) 6 6;unfold Z';rw[ZF];simp only[xlC,xlN];omega
 split
 ·simp only[xlC,xlN];omega
 ·have:=ww d n.kids 0 (qF (([[116,121,112,101],n.text]++n.names)++[[61]]));rw[BO] at this;simp[YD] at this;simp[YD] at hw;simp;omega
theorem BJ(d:Nat):∀ (ks:List Nd) (w:Tx),(Xt d w ks).length≤w.length+60*Xq ks
 | [],w=>by simp[Xt,Xq]
 | k::r,w=>by
  have h1:=dm d k;have h:=BJ d r (w++qF [ZU d k,[59,32]]);show (Xt d _ r).length≤_+60*(wt k+Xq r);rw[xlA,q8] at h;simp only[xlC,xlN] at h;omega
theorem kl:∀ l:List Nd,Xq l.dropLast+wt (l.getLastD VQ)≤Xq l+1
 | []=>by simp[Xq,VQ,wt,YD]
 | [a]=>by simp[Xq]
 | a::b::r=>by
  have:=kl (b::r);show wt a+Xq (b::r).dropLast+wt ((b::r).getLastD VQ)≤wt a+Xq (b::r)+1;omega
theorem xA(d:Nat)(n:Nd):(Zj d n).length≤60*wt n+60:=by
 have h1:=BJ d n.kids.dropLast [];have h2:=Jp (UK d) (n.kids.getLastD VQ) 7 7;have h3:=kl n.kids;have hw:=U6 n;unfold Zj;rw[xlA,q8];simp only[xlC,xlN] at h1 ⊢;omega
end Go.AL
namespace Go.AL
def wq(T:List Tk)(i:Nat):Nat:=((T.take i).map fun t=>t.text.length+8).sum
theorem ft(T:List Tk){i j:Nat}(h:i≤j):wq T i≤wq T j:=by
 unfold wq;obtain⟨k,rfl⟩:=Nat.exists_eq_add_of_le h;rw[List.take_add,xmA,List.sum_append];exact Nat.le_add_right _ _
theorem tH{T:List Tk}{i:Nat}{t:Tk}(h:T[i]?=some t):wq T (i+1)=wq T i+t.text.length+8:=by
 unfold wq;rw[List.take_add_one,h];simp;omega
theorem XS(n c:Nd):wt (n.addKid c)=wt n+wt c:=by
 have happ:∀ l r:List Nd,Xq (l++r)=Xq l+Xq r:=by
  intro l r;induction l with
  | nil=>simp[Xq]
  | cons a l ih=>simp[Xq,ih];omega
 cases n;simp[Nd.addKid,wt,happ,Xq];omega
theorem fC(l r:List Nd):Xq (l++r)=Xq l+Xq r:=by
 induction l with
 | nil=>simp[Xq]
 | cons a l ih=>simp[Xq,ih];omega
theorem ur(n:Nd)(l:List Nd):wt (n.addKids l)=wt n+Xq l:=by
 cases n;simp[Nd.addKids,wt,fC];omega
theorem vR(n:Nd)(s:Tx):wt (n.addName s)=wt n+s.length+1:=by
 cases n;simp[Nd.addName,wt,YD];omega
theorem Z8(k a:Int)(t:Tx)(l:List Nd):wt (zr k a t l)=1+t.length+Xq l:=by simp[zr,wt,YD]
variable {T:List Tk}
def Go1(T:List Tk)(p q:PS)(n:Nat):Prop:=q.e=0→p.e=0∧n+wq T p.pos≤wq T q.pos
theorem Go1.refl{p:PS}:Go1 T p p 0:=fun h=>⟨h,by omega⟩
theorem Go1.trans{p q r:PS}{a b c:Nat}(x:Go1 T p q a)(y:Go1 T q r b)(h:c≤a+b):Go1 T p r c:=fun hr=>by
 obtain⟨h1,h2⟩:=y hr;obtain⟨h3,h4⟩:=x h1;exact⟨h3,by omega⟩
theorem Go1.le{p q:PS}{a b:Nat}(x:Go1 T p q a)(h:b≤a):Go1 T p q b:=fun hr=>by
 obtain⟨h3,h4⟩:=x hr;exact⟨h3,by omega⟩
def JK(T:List Tk)(e:PM Nd):Prop:=∀ p nd q,e p=some (nd,q)→Go1 T p q (wt nd+1)
theorem Kl{p q:PS}{e:Int}(he:e≠0)(h:Zh T e p=some q)(n:Nat):Go1 T p q n:=by
 unfold Zh at h;split at h
 ·simp only[xoM] at h;obtain⟨t,_,rfl⟩:=h;exact fun x=>absurd x he
 ·cases h;rename_i hp;exact fun x=>absurd x hp
theorem rX{p:PS}{t:Tk}(h:zE T p=some t):(p.e=0∧T[p.pos]?=some t)∨(p.e≠0∧t=gQ):=by
 unfold zE at h;split at h
 ·exact .inl ⟨by assumption,h⟩
 ·cases h;exact .inr ⟨by assumption,rfl⟩
theorem XK{p q:PS}{t:Tk}(h:ZG T p=some (t,q)):zE T p=some t∧Go1 T p q 0∧(t.kind≠0→Go1 T p q (t.text.length+8)):=by
 unfold ZG at h;simp only[xoM,xpJ] at h;obtain⟨t',hl,rfl,rfl⟩:=h;refine⟨hl,?_,fun hk=>?_⟩
 ·split
  ·exact fun x=>⟨x,by have:=ft T (Nat.le_succ p.pos);simpa using this⟩
  ·exact .refl
 ·rcases rX hl with⟨h1,h2⟩ | ⟨h1,rfl⟩
  ·rw[if_pos ⟨h1,hk⟩];exact fun x=>⟨h1,by have:=tH h2;show _≤wq T (p.pos+1);omega⟩
  ·exact absurd rfl hk
theorem HX{t:Tk}{s:Tx}(h:isT t s=true):t.kind≠0:=by
 unfold isT at h;simp only[Y4,Bool.or_eq_true,beq_iff_eq] at h;omega
theorem Hd{p q:PS}{s:Tx}{b:Bool}(h:Xc T s p=some (b,q)):Go1 T p q (if b=true then 8 else 0):=by
 unfold Xc Ye at h;simp only[xoB,xoM] at h;obtain⟨c,⟨t,hl,rfl⟩,h⟩:=h;split at h
 ·simp only[xoM,xpJ] at h;obtain⟨⟨t',q'⟩,h2,rfl,rfl⟩:=h;obtain⟨g1,_,g2⟩:=XK h2;rw[hl] at g1;cases g1;exact (g2 (HX (by assumption))).le (by simp)
 ·cases h;exact .refl
theorem Xw{p q:PS}{s:Tx}(h:qp T s p=some q):Go1 T p q 8:=by
 unfold qp at h;simp only[xoB,xpX] at h;obtain⟨b,q',h1,h2⟩:=h;have:=Hd h1;split at h2
 ·cases h2;have hb:b=true:=by assumption
  rw[if_pos hb] at this;exact this
 ·exact this.trans (Kl (by decide) h2 8) (by omega)
theorem Ee{p q:PS}{k:Int}{t:Tk}(hk:k≠0)(h:Qn T k p=some (t,q)):Go1 T p q (t.text.length+8):=by
 unfold Qn at h;simp only[xoB] at h;obtain⟨t1,hl,p1,h1,h2⟩:=h;obtain⟨g1,g0,g2⟩:=XK h2;split at h1
 ·exact (Kl (by decide) h1 _).trans g0 (Nat.le_refl _)
 ·cases h1;rw[hl] at g1;cases g1;exact g2 (by rename_i x;have:=Classical.not_not.1 x;omega)
theorem H2{p q:PS}{n m:Int}(h:ZE T n m p=some q):Go1 T p q 0:=by
 unfold ZE at h;split at h
 ·exact Kl (by decide) h 0
 ·cases h;exact .refl
theorem E0{e:PM Nd}(he:JK T e):JK T (Ys T e):=by
 intro p nd q h;unfold Ys at h;simp only[xoB] at h;obtain⟨p1,h1,h⟩:=h;have g1:Go1 T p p1 0:=by
  split at h1
  ·exact Kl (by decide) h1 0
  ·cases h1;exact .refl
 split at h
 ·cases h;rename_i x;exact fun y=>absurd y x
 ·simp only[xoB,xpX] at h;obtain⟨r,p2,h2,h3⟩:=h;split at h3
  ·cases h3
  ·cases h3;have:=he _ _ _ h2;exact g1.trans (q:=p1) (fun x=>this x) (by omega)
theorem yr{e:PM Nd}(he:JK T e){p q:PS}{nd:Nd}(h:Y0 T e p=some (nd,q)):Go1 T p q (wt nd+8):=by
 unfold Y0 at h;simp only[xoB,xoM,xpX,xpJ] at h;obtain⟨p1,h1,r,p2,h2,p3,h3,rfl,rfl⟩:=h;exact (Xw h1).trans (((E0 he) _ _ _ h2).trans (Xw h3) (Nat.le_refl _)) (by omega)
theorem mO{kinds:List (Int×Int)}(hk:∀ q∈kinds,q.1≠0){p q:PS}{nd:Nd}(h:XC T kinds p=some (nd,q)):Go1 T p q (wt nd+7):=by
 unfold XC at h;simp only[xoB] at h;obtain⟨t,hl,h⟩:=h;split at h
 ·simp only[xoM,xpJ] at h;obtain⟨q',h1,rfl,rfl⟩:=h;exact Kl (by decide) h1 _
 ·simp only[xoM,xpJ,xpX] at h;obtain⟨t',q',h1,rfl,rfl⟩:=h;rename_i hne;have hk0:t.kind≠0:=by
   cases hf:kinds.find? fun q=>q.1==t.kind with
   | none=>rw[hf] at hne;exact absurd rfl hne
   | some y =>
    have h1:=List.find?_some hf;have h2:=hk y (List.mem_of_find?_eq_some hf);have h1:y.1=t.kind:=by simpa using h1
    omega
  obtain⟨g1,_,g2⟩:=XK h1;rw[hl] at g1;cases g1;exact (g2 hk0).le (by simp[wt,YD,Xq];omega)
theorem cI{e:PM Nd}(he:JK T e):∀ (n:Nat) (nd:Nd) (p:PS) (r:Nd) (q:PS),j' T e n nd p=some (r,q)→∃ k,wt r=wt nd+k∧Go1 T p q k
 | 0,_,_,_,_,h=>by cases h
 | n+1,nd,p,r,q,h=>by
  unfold j' at h;simp only[xoB] at h;obtain⟨t,hl,h⟩:=h;split at h
  ·simp only[xoB,xpX] at h;obtain⟨t',p1,h1,h2⟩:=h;obtain⟨g1,_,g2⟩:=XK h1;rw[hl] at g1;cases g1;obtain⟨k,h3,h4⟩:=cI he n _ _ _ _ h2;rw[XS,Z8] at h3;exact⟨1+t.text.length+k,by simp[Xq] at h3;omega,(g2 (by omega)).trans h4 (by omega)⟩
  ·simp only[xoB] at h;obtain⟨b,_,h⟩:=h;split at h
   ·simp only[xoB,xpX] at h;obtain⟨c,p1,h1,h2⟩:=h;have:=yr he h1;obtain⟨k,h3,h4⟩:=cI he n _ _ _ _ h2;rw[XS] at h3;exact⟨wt c+k,by omega,this.trans h4 (by omega)⟩
   ·cases h;exact⟨0,by omega,.refl⟩
theorem eK:∀ n,JK T (BC T n)
 | 0=>fun _ _ _ h=>by cases h
 | n+1=>by
  intro p nd q h;unfold BC ma at h;simp only[xoB,xpX] at h;obtain⟨t,p1,h1,h2⟩:=h;obtain⟨k,h3,h4⟩:=cI (eK n) _ _ _ _ _ h2;rw[Z8] at h3;exact (Ee (by decide) h1).trans h4 (by simp[Xq] at h3;omega)
theorem cV{e:PM Nd}(he:JK T e):∀ (n:Nat) (m:Bool) (nd:Nd) (p:PS) (r:Nd) (q:PS),Um T e n m nd p=some (r,q)→∃ k,wt r=wt nd+k∧Go1 T p q k
 | 0,_,_,_,_,_,h=>by cases h
 | n+1,m,nd,p,r,q,h=>by
  unfold Um at h;split at h
  ·simp only[xoB,xpX] at h;obtain⟨p1,h1,c,p2,h2,b,p3,h3,h4⟩:=h;obtain⟨k,h5,h6⟩:=cV he n _ _ _ _ _ h4;rw[XS] at h5;have g2:=E0 he _ _ _ h2;have g3:=Hd h3;exact⟨wt c+k,by omega,(H2 h1).trans (g2.trans (g3.trans h6 (Nat.le_refl _)) (Nat.le_refl _)) (by omega)⟩
  ·cases h;exact⟨0,by omega,.refl⟩
theorem A2{e:PM Nd}(he:JK T e):JK T (HG T e):=by
 intro p nd q h;unfold HG at h;simp only[xoB,xpX] at h;obtain⟨t,p1,h1,b,p2,h2,h⟩:=h;have g1:=Ee (by decide) h1;have g2:=Hd h2;split at h
 ·obtain⟨k,h5,h6⟩:=cV he _ _ _ _ _ _ h;rw[Z8] at h5;exact g1.trans (g2.trans h6 (Nat.le_refl _)) (by simp[Xq] at h5;omega)
 ·cases h;exact g1.trans g2 (by simp[Z8,Xq];omega)
theorem ja:∀ (n:Nat) (nd:Nd) (p:PS) (r:Nd) (q:PS),QF T n nd p=some (r,q)→∃ k,wt r=wt nd+k∧Go1 T p q k
 | 0,_,_,_,_,h=>by cases h
 | n+1,nd,p,r,q,h=>by
  unfold QF at h;simp only[xoB] at h;obtain⟨t,hl,h⟩:=h;split at h
  ·rename_i hk;simp only[xoB,xpX] at h;obtain⟨p1,h1,t',p2,h2,h3⟩:=h;obtain⟨g1,g0,g2⟩:=XK h2;obtain⟨k,h5,h6⟩:=ja n _ _ _ _ h3;rw[vR] at h5;refine⟨t'.text.length+1+k,by omega,?_⟩;unfold ZE at h1;split at h1
   ·exact (Kl (by decide) h1 (t'.text.length+1+k)).trans (g0.trans h6 (Nat.le_refl _)) (Nat.le_add_right _ _)
   ·cases h1;rw[hl] at g1;cases g1;exact (g2 (by omega)).trans h6 (by omega)
  ·cases h;exact⟨0,by omega,.refl⟩
theorem uM{e:PM Nd}(he:JK T e):∀ (n:Nat) (m:Bool) (nd:Nd) (p:PS) (r:Nd) (q:PS),Y7 T e n m nd p=some (r,q)→∃ k,wt r=wt nd+k∧Go1 T p q k
 | 0,_,_,_,_,_,h=>by cases h
 | n+1,m,nd,p,r,q,h=>by
  unfold Y7 at h;split at h
  ·simp only[xoB,xpX] at h;obtain⟨p1,h1,c,p2,h2,b,p3,h3,h4⟩:=h;obtain⟨k,h5,h6⟩:=uM he n _ _ _ _ _ h4;rw[XS] at h5;have g2:=A2 he _ _ _ h2;have g3:=Hd h3;exact⟨wt c+k,by omega,(H2 h1).trans (g2.trans (g3.trans h6 (Nat.le_refl _)) (Nat.le_refl _)) (by omega)⟩
  ·cases h;exact⟨0,by omega,.refl⟩
theorem vm{e:PM Nd}(he:JK T e){p q:PS}{nd:Nd}(h:Q9 T e p=some (nd,q)):Go1 T p q (wt nd):=by
 unfold Q9 at h;simp only[xoB,xpX] at h;obtain⟨t0,p0,h0,t,p1,h1,n1,p2,h2,p3,h3,h4⟩:=h;obtain⟨_,g0,_⟩:=XK h0;have g1:=Ee (by decide) h1;obtain⟨k,h5,h6⟩:=ja _ _ _ _ _ h2;obtain⟨j,h7,h8⟩:=uM he _ _ _ _ _ _ h4;rw[Z8] at h5;exact g0.trans (g1.trans (h6.trans ((Xw h3).trans h8 (Nat.le_refl _)) (Nat.le_refl _)) (Nat.le_refl _)) (by simp[Xq] at h5;omega)
theorem xd{e:PM Nd}(he:JK T e):JK T (QW T e):=by
 intro p nd q h;unfold QW at h;simp only[xoB,xpX] at h;obtain⟨t,hl,b,p1,h1,h⟩:=h;have g1:=Hd h1;split at h
 ·cases h;have hb:b=true:=by assumption
  rw[if_pos hb] at g1;exact g1.le (by simp[Z8,Xq])
 ·simp only[xoB] at h;obtain⟨c,_,h⟩:=h;split at h
  ·exact g1.trans (yr he h) (by omega)
  ·exact g1.trans (mO (by decide) h) (by omega)
theorem pP{e:PM Nd}(he:JK T e):∀ (n:Nat) (m:Bool) (nd:Nd) (p:PS) (r:Nd) (q:PS),JM T e n m nd p=some (r,q)→∃ k,wt r=wt nd+k∧Go1 T p q k
 | 0,_,_,_,_,_,h=>by cases h
 | n+1,m,nd,p,r,q,h=>by
  unfold JM at h;split at h
  ·simp only[xoB] at h;obtain⟨b,_,h⟩:=h;split at h
   ·simp only[xoB,xpX] at h;obtain⟨p1,h1,c,p2,h2,h4⟩:=h;obtain⟨k,h5,h6⟩:=pP he n _ _ _ _ _ h4;rw[XS] at h5;exact⟨wt c+k,by omega,(H2 h1).trans ((xd he _ _ _ h2).trans h6 (Nat.le_refl _)) (by omega)⟩
   ·cases h;exact⟨0,by omega,.refl⟩
  ·cases h;exact⟨0,by omega,.refl⟩
theorem kT:∀ n,JK T (Qj T n)
 | 0=>fun _ _ _ h=>by cases h
 | n+1=>by
  intro p nd q h;unfold Qj HR at h;simp only[xoB,xpX] at h;obtain⟨t,hl,r,p1,h1,h2⟩:=h;obtain⟨k,h3,h4⟩:=pP (kT n) _ _ _ _ _ _ h2;exact (xd (kT n) _ _ _ h1).trans h4 (by omega)
theorem U0{e:PM Nd}(he:JK T e):JK T (Xe T e):=by
 intro p nd q h;unfold Xe at h;simp only[xoM,xpX,xpJ] at h;obtain⟨r,p1,h1,rfl,rfl⟩:=h;have:=E0 he _ _ _ h1;exact fun x=>this x
theorem wg{e pt:PM Nd}(he:JK T e)(hp:JK T pt):∀ (n:Nat) (m:Bool) (nd:Nd) (p:PS) (r:Nd) (q:PS),Q1 T e pt n m nd p=some (r,q)→∃ k,wt r=wt nd+k∧Go1 T p q k
 | 0,_,_,_,_,_,h=>by cases h
 | n+1,m,nd,p,r,q,h=>by
  unfold Q1 at h;simp only[xoB] at h;obtain⟨b,_,h⟩:=h;split at h
  ·simp only[xoB,xpX] at h;obtain⟨p1,h1,p2,h2,c,p3,h3,p4,h4,d,p5,h5,h6⟩:=h;obtain⟨k,h7,h8⟩:=wg he hp n _ _ _ _ _ h6;rw[ur] at h7;simp only[Xq] at h7;exact⟨wt c+wt d+k,by omega,(H2 h1).trans ((Xw h2).trans ((E0 hp _ _ _ h3).trans ((Xw h4).trans ((U0 he _ _ _ h5).trans h8 (Nat.le_refl _)) (Nat.le_refl _)) (Nat.le_refl _)) (Nat.le_refl _)) (by omega)⟩
  ·cases h;exact⟨0,by omega,.refl⟩
theorem tP{e pt:PM Nd}(he:JK T e)(hp:JK T pt):JK T (JH T e pt):=by
 intro p nd q h;unfold JH at h;simp only[xoB,xoM,xpX,xpJ] at h;obtain⟨t,p1,h1,c,p2,h2,p3,h3,r,p4,h4,p5,h5,rfl,rfl⟩:=h;obtain⟨_,g0,_⟩:=XK h1;obtain⟨k,h7,h8⟩:=wg he hp _ _ _ _ _ _ h4;rw[Z8] at h7;simp only[Xq,xlN] at h7;exact g0.trans ((U0 he _ _ _ h2).trans ((Xw h3).trans (h8.trans (Xw h5) (Nat.le_refl _)) (Nat.le_refl _)) (Nat.le_refl _)) (by omega)
theorem CW{e:PM Nd}(he:JK T e):JK T (E6 T e):=by
 intro p nd q h;unfold E6 at h;simp only[xoB,xoM,xpX,xpJ] at h;obtain⟨t,p1,h1,c,p2,h2,p3,h3,u,p4,h4,p5,h5,d,p6,h6,p7,h7,rfl,rfl⟩:=h;obtain⟨_,g0,_⟩:=XK h1;exact g0.trans ((U0 he _ _ _ h2).trans ((Xw h3).trans ((Ee (by decide) h4).trans ((Xw h5).trans ((U0 he _ _ _ h6).trans (Xw h7) (Nat.le_refl _)) (Nat.le_refl _)) (Nat.le_refl _)) (Nat.le_refl _)) (Nat.le_refl _)) (by simp[Z8,Xq];omega)
theorem LI{e pt:PM Nd}(he:JK T e)(hp:JK T pt):JK T (ZV T e pt):=by
 intro p nd q h;unfold ZV at h;simp only[xoB] at h;obtain⟨t,hl,h⟩:=h;split at h
 ·exact tP he hp _ _ _ h
 split at h
 ·exact CW he _ _ _ h
 split at h
 ·simp only[xoM,xpX,xpJ] at h;obtain⟨t',p1,h1,rfl,rfl⟩:=h;obtain⟨g1,_,g2⟩:=XK h1;rw[hl] at g1;cases g1;exact (g2 (HX (by assumption))).le (by simp[Z8,Xq])
 split at h
 ·rename_i hb;simp only[xoB,xpX] at h;obtain⟨t',p1,h1,b,p2,h2,h⟩:=h;obtain⟨g1,_,g2⟩:=XK h1;rw[hl] at g1;cases g1;have g2:=(g2 (HX hb)).le (b:=8) (by omega);split at h
  ·cases h;exact g2.trans (Hd h2) (by simp[Z8,Xq];omega)
  ·simp only[xoB,xoM,xpX,xpJ] at h;obtain⟨c,p3,h3,p4,h4,rfl,rfl⟩:=h;exact g2.trans ((Hd h2).trans ((U0 he _ _ _ h3).trans (Xw h4) (Nat.le_refl _)) (Nat.le_refl _)) (by omega)
 ·exact (mO (by decide) h).le (by omega)
theorem kc{e pt:PM Nd}(he:JK T e)(hp:JK T pt):∀ (n:Nat) (nd:Nd) (p:PS) (r:Nd) (q:PS),Xs T e pt n nd p=some (r,q)→∃ k,wt r=wt nd+k∧Go1 T p q k
 | 0,_,_,_,_,h=>by cases h;exact⟨0,by omega,.refl⟩
 | n+1,nd,p,r,q,h=>by
  unfold Xs at h;simp only[xoB,xpX] at h;obtain⟨c,p1,h1,h2⟩:=h;obtain⟨k,h3,h4⟩:=kc he hp n _ _ _ _ h2;rw[XS] at h3;exact⟨wt c+k,by omega,(LI he hp _ _ _ h1).trans h4 (by omega)⟩
theorem vN{e pt:PM Nd}(he:JK T e)(hp:JK T pt):∀ (n:Nat) (m:Bool) (nd:Nd) (p:PS) (r:Nd) (q:PS),YM T e pt n m nd p=some (r,q)→∃ k,wt r=wt nd+k∧Go1 T p q k
 | 0,_,_,_,_,_,h=>by cases h
 | n+1,m,nd,p,r,q,h=>by
  unfold YM at h;simp only[xoB] at h;obtain⟨t,hl,h⟩:=h;split at h
  ·split at h
   ·simp only[xoB,xpX] at h;obtain⟨p1,h1,c,p2,h2,h4⟩:=h;obtain⟨k,h5,h6⟩:=vN he hp n _ _ _ _ _ h4;rw[XS] at h5;exact⟨wt c+k,by omega,(H2 h1).trans ((LI he hp _ _ _ h2).trans h6 (Nat.le_refl _)) (by omega)⟩
   ·simp only[xoB,xpX] at h;obtain⟨c,p2,h2,h4⟩:=h;obtain⟨k,h5,h6⟩:=vN he hp n _ _ _ _ _ h4;rw[Z8] at h5;simp only[Xq,xlN] at h5;exact⟨wt c+1+k,by omega,(LI he hp _ _ _ h2).trans h6 (by omega)⟩
  ·cases h;exact⟨0,by omega,.refl⟩
theorem AW{e pt:PM Nd}(he:JK T e)(hp:JK T pt):JK T (JD T e pt):=by
 intro p nd q h;unfold JD at h;simp only[xoB] at h;obtain⟨t,hl,h⟩:=h;split at h
 ·rename_i hk;simp only[xoB,xpX] at h;obtain⟨t',p1,h1,h2⟩:=h;obtain⟨g1,_,g2⟩:=XK h1;rw[hl] at g1;cases g1;obtain⟨k,h5,h6⟩:=kc he hp _ _ _ _ _ h2;rw[Z8] at h5;simp only[Xq,xlN] at h5;exact (g2 (by omega)).trans h6 (by omega)
 ·simp only[xoB,xpX] at h;obtain⟨c,p1,h1,h2⟩:=h;obtain⟨k,h5,h6⟩:=vN he hp _ _ _ _ _ _ h2;exact (LI he hp _ _ _ h1).trans h6 (by omega)
theorem yA{part:PM Nd}(hp:JK T part)(signs:List Tx):∀ (n:Nat) (t:Tk) (nd:Nd) (p:PS) (r:Nd) (q:PS),zE T p=some t→J0 T part signs n t nd p=some (r,q)→∃ k,wt r=wt nd+k∧Go1 T p q k
 | 0,_,_,_,_,_,_,h=>by cases h
 | n+1,t,nd,p,r,q,hl,h=>by
  unfold J0 at h;split at h
  ·rename_i hk;simp only[xoB,xpX] at h;obtain⟨t1,p1,h1,c,p2,h2,t2,h3,h4⟩:=h;obtain⟨g1,_,g2⟩:=XK h1;rw[hl] at g1;cases g1;obtain⟨k,h5,h6⟩:=yA hp signs n _ _ _ _ _ h3 h4;rw[Z8] at h5;simp only[Xq] at h5;exact⟨wt c+1+t.text.length+k,by omega,(g2 (by omega)).trans ((hp _ _ _ h2).trans h6 (Nat.le_refl _)) (by omega)⟩
  ·cases h;exact⟨0,by omega,.refl⟩
theorem nQ{part:PM Nd}(hp:JK T part)(signs:List Tx):JK T (J1 T part signs):=by
 intro p nd q h;unfold J1 at h;simp only[xoB,xpX] at h;obtain⟨c,p1,h1,t,h2,h3⟩:=h;obtain⟨k,h5,h6⟩:=yA hp signs _ _ _ _ _ _ h2 h3;exact (hp _ _ _ h1).trans h6 (by omega)
theorem A5{e pt:PM Nd}(he:JK T e)(hp:JK T pt):JK T (W7 T e pt):=by
 have hs:JK T (E4 T e pt):=nQ (nQ (AW he hp) _) _;intro p nd q h;unfold W7 at h;simp only[xoB,xpX] at h;obtain⟨c,p1,h1,t,h2,h⟩:=h;have g1:=hs _ _ _ h1;split at h
 ·rename_i hk;simp only[xoB,xoM,xpX,xpJ] at h;obtain⟨t1,p2,h3,d,p3,h4,rfl,rfl⟩:=h;obtain⟨k1,_,k2⟩:=XK h3;rw[h2] at k1;cases k1;exact g1.trans ((k2 (hk.elim HX HX)).trans (hs _ _ _ h4) (Nat.le_refl _)) (by simp[Z8,Xq];omega)
 ·cases h;exact g1
theorem ym{e:PM Nd}(he:JK T e){p q:PS}{x:Tx}{b:Bool}{v:Nd}(h:Xh T e p=some ((x,b,v),q)):Go1 T p q (x.length+wt v+8):=by
 unfold Xh at h;simp only[xoB,xoM,xpX,xpJ] at h;obtain⟨b',p1,h1,t,p2,h2,p3,h3,p4,h4,w,p5,h5,⟨rfl,rfl,rfl⟩,rfl⟩:=h;have g4:Go1 T p3 p4 0:=by
  split at h4
  ·simp only[xoB] at h4;obtain⟨c,_,h4⟩:=h4;split at h4
   ·cases h4;exact .refl
   ·exact Kl (by decide) h4 0
  ·cases h4;exact .refl
 exact (Hd h1).trans ((Ee (by decide) h2).trans ((Xw h3).trans (g4.trans (E0 he _ _ _ h5) (Nat.le_refl _)) (Nat.le_refl _)) (Nat.le_refl _)) (by omega)
theorem rz{e pt:PM Nd}(he:JK T e)(hp:JK T pt):JK T (J9 T e pt):=by
 intro p nd q h;unfold J9 at h;simp only[xoB] at h;obtain⟨t,hl,h⟩:=h;split at h
 ·unfold Bg at h;simp only[xoB,xoM,xpX,xpJ] at h;obtain⟨t0,p1,h1,x,b,v,p2,h2,p3,h3,c,p4,h4,rfl,rfl⟩:=h;obtain⟨_,g0,_⟩:=XK h1;exact g0.trans ((ym he h2).trans ((Xw h3).trans (E0 he _ _ _ h4) (Nat.le_refl _)) (Nat.le_refl _)) (by simp[Z8,Xq];omega)
 split at h
 ·unfold Ll at h;simp only[xoB,xoM,xpX,xpJ] at h;obtain⟨t0,p1,h1,x,p2,h2,p3,h3,c,p4,h4,rfl,rfl⟩:=h;obtain⟨_,g0,_⟩:=XK h1;exact g0.trans ((Ee (by decide) h2).trans ((Xw h3).trans (E0 he _ _ _ h4) (Nat.le_refl _)) (Nat.le_refl _)) (by simp[Z8,Xq];omega)
 split at h
 ·unfold JV at h;simp only[xoB,xoM,xpX,xpJ] at h;obtain⟨t0,p1,h1,c,p2,h2,p3,h3,d,p4,h4,p5,h5,f,p6,h6,rfl,rfl⟩:=h;obtain⟨_,g0,_⟩:=XK h1;exact g0.trans ((E0 he _ _ _ h2).trans ((Xw h3).trans ((E0 he _ _ _ h4).trans ((Xw h5).trans (E0 he _ _ _ h6) (Nat.le_refl _)) (Nat.le_refl _)) (Nat.le_refl _)) (Nat.le_refl _)) (by simp[Z8,Xq];omega)
 ·simp only[xoB,xpX] at h;obtain⟨c,p1,h1,b,p2,h2,h⟩:=h;have g1:=A5 he hp _ _ _ h1;have g2:Go1 T p1 p2 (if b=true then 8 else 0):=by
   split at h2
   ·cases h2;exact .refl
   ·exact Hd h2
  split at h
  ·rename_i hb;have hb:b=true:=hb;rw[if_pos hb] at g2;simp only[xoM,xpX,xpJ] at h;obtain⟨d,p3,h3,rfl,rfl⟩:=h;exact g1.trans (g2.trans (E0 he _ _ _ h3) (Nat.le_refl _)) (by simp[Z8,Xq];omega)
  ·cases h;exact g1.trans g2 (by omega)
theorem vF:∀ n,JK T (Z7 T n)
 | 0=>fun _ _ _ h=>by cases h
 | n+1=>rz (vF n) (kT (n+1))
theorem aP{e ty:PM Nd}(he:JK T e)(ht:JK T ty):JK T (Jy T e ty):=by
 intro p nd q h;unfold Jy at h;simp only[xoB,xoM,xpX,xpJ] at h;obtain⟨b,_,c,p1,h1,p2,h2,rfl,rfl⟩:=h;have g2:=Xw h2;split at h1
 ·exact (vm ht h1).trans g2 (by omega)
 ·simp only[xoB,xoM,xpX,xpJ] at h1;obtain⟨t,p3,h3,x,b',v,p4,h4,rfl,rfl⟩:=h1;obtain⟨_,g0,_⟩:=XK h3;have g4:=ym he h4;have g5:Go1 T p3 p4 (x.length+wt v+8):=fun z=>g4 z;have g6:Go1 T p4 p2 8:=fun z=>g2 z;exact g0.trans (g5.trans g6 (Nat.le_refl _)) (by simp[Z8,Xq];omega)
theorem uS{e ty:PM Nd}(he:JK T e)(ht:JK T ty):∀ (n:Nat) (nd:Nd) (p:PS) (r:Nd) (q:PS),Y' T e ty n nd p=some (r,q)→∃ k,wt r=wt nd+k∧Go1 T p q k
 | 0,_,_,_,_,h=>by cases h
 | n+1,nd,p,r,q,h=>by
  unfold Y' at h;simp only[xoB] at h;obtain⟨a,_,b,_,h⟩:=h;split at h
  ·simp only[xoB,xpX] at h;obtain⟨p1,h1,c,p2,h2,h4⟩:=h;obtain⟨k,h5,h6⟩:=uS he ht n _ _ _ _ h4;rw[XS] at h5;exact⟨wt c+k,by omega,(H2 h1).trans ((aP he ht _ _ _ h2).trans h6 (Nat.le_refl _)) (by omega)⟩
  ·cases h;exact⟨0,by omega,.refl⟩
theorem lQ(T:List Tk)(i N:Nat)(h:∀ t∈T,t.text.length≤N):wq T i≤T.length*(N+8):=by
 unfold wq;have key:∀ l:List Tk,(∀ t∈l,t.text.length≤N)→(l.map fun t=>t.text.length+8).sum≤l.length*(N+8):=by
  intro l hl;induction l with
  | nil=>simp
  | cons a r ih =>
   have h1:=ih fun t ht=>hl t (List.mem_cons_of_mem _ ht);have h2:=hl a List.mem_cons_self;rw[List.map_cons,List.sum_cons,xlC,Nat.add_mul];omega
 have h1:=key (T.take i) fun t ht=>h t (List.mem_of_mem_take ht);refine Nat.le_trans h1 (Nat.mul_le_mul_right _ ?_);rw[List.length_take];exact Nat.min_le_right _ _
theorem cg{n:Nd}{a:Int}{N:Nat}(h:Jm T=some (n,a,0))(hN:∀ t∈T,t.text.length≤N):wt n≤T.length*(N+8)+1:=by
 unfold Jm at h;simp only[xoM,xpX] at h;obtain⟨r,q,h,hr⟩:=h;unfold KE at h;simp only[xoB,xoM,xpX,xpJ] at h;obtain⟨t,k1,x,p1,k2,p2,k3,u,p3,k4,t',k5,p4,k6,rfl,rfl⟩:=h;split at hr
 ·rename_i z;cases hr;obtain⟨k,h5,h6⟩:=uS (vF 42) (eK 42) _ _ _ _ _ k2;rw[Z8] at h5;simp only[Xq,xlN] at h5;have g6:Go1 T p3 p4 0:=by
   split at k6
   ·exact Kl (by decide) k6 0
   ·cases k6;exact .refl
  have:=(h6.trans ((Xw k3).trans ((E0 (vF 42) _ _ _ k4).trans g6 (Nat.le_refl _)) (Nat.le_refl _)) (Nat.le_refl _)) z;have h8:=lQ T p4.pos N hN;rw[XS];omega
 ·rename_i z;simp only[xpJ] at hr;exact absurd hr.2.2 z
end Go.AL
