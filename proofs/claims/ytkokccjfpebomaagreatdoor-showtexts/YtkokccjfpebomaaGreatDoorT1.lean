/- What a source's node is like, told whole: what may stand where, and how deep. -/
import Derived.Test.YtkokccjfpebomaaGreatDoorD1
set_option linter.all false
namespace Go.AL
def JJ(s:Tx):Prop:=∃ c r,s=c::r∧qY c=true∧(∀ d∈r,zH d=true)∧s.length≤16∧s ∉ keysL
def gh(s:Tx):Prop:=∃ c r,s=c::r∧qL c=true∧(∀ d∈r,zH d=true)∧s.length≤16
def jP:List Tx:=[[61],[60],[43],[45],[94],[42],[47],[37]]
def JX(m:Int)(n:Nd):Bool:=decide (m<qO n∨n.kind=5∧m=1)
def lo(f:Bool):Int:=if f then 6 else 7
def Vm(t:Tx):Int:=if ZD t=5 then 4 else ZD t
def V0(t:Tx):Int:=if ZD t=5 then 4 else ZD t-1
structure Slot where
 d:Nat
 f:Bool
 m:Int
 pt:Bool
def ZA(pt f:Bool)(k:Int)(t:Tx)(i:Nat):Slot :=
 if k=6∨k=8∨k=9∨k=10 then ⟨1,f,lo f,false⟩
 else if k=7 then ⟨0,f,if i=0 then 1 else 0,false⟩
 else if k=11 then ⟨1,false,7,decide (i % 2=1)⟩
 else if k=12 then ⟨1,false,7,false⟩
 else if k=13 then ⟨0,f,if i=0 then Vm t else V0 t,false⟩
 else if k=14 then (if i=0 then ⟨0,f,5,false⟩ else ⟨1,false,7,false⟩)
 else ⟨0,f,0,pt⟩
inductive Shape:Bool→Bool→Nd→Prop where
 | int (pt f:Bool) (m a:Int) (h:0≤m∧m≤4611686018427387903):Shape pt f (.mk 1 [] m a [] [])
 | text (f:Bool) (t:Tx) (a:Int) (h:t.length≤60):Shape false f (.mk 2 t 0 a [] [])
 | unit (f:Bool) (a:Int):Shape false f (.mk 3 [] 0 a [] [])
 | retry (f:Bool) (a:Int):Shape false f (.mk 19 [] 0 a [] [])
 | any (f:Bool) (a:Int):Shape true f (.mk 24 [] 0 a [] [])
 | name (pt f:Bool) (t:Tx) (a:Int) (h:JJ t):Shape pt f (.mk 4 t 0 a [] [])
 | con (pt f:Bool) (t:Tx) (a:Int) (ks:List Nd) (h:gh t) (hl:ks.length≤4):Shape pt f (.mk 5 t 0 a [] ks)
 | fn (f:Bool) (t:Tx) (a:Int) (k:Nd) (h:JJ t):Shape false f (.mk 6 t 0 a [] [k])
 | call (f:Bool) (a:Int) (k l:Nd):Shape false f (.mk 7 [] 0 a [] [k,l])
 | lt (f:Bool) (t:Tx) (a:Int) (k l:Nd) (h:JJ t):Shape false f (.mk 8 t 0 a [] [k,l])
 | rc (f:Bool) (t:Tx) (a:Int) (k l:Nd) (h:JJ t) (hk:k.kind=6):Shape false f (.mk 9 t 0 a [] [k,l])
 | iff (f:Bool) (a:Int) (k l m:Nd):Shape false f (.mk 10 [] 0 a [] [k,l,m])
 | mtch (f:Bool) (a:Int) (ks:List Nd) (h:ks.length % 2=1∧3≤ks.length∧ks.length≤41):Shape false f (.mk 11 [] 0 a [] ks)
 | tr (f:Bool) (t:Tx) (a:Int) (k l:Nd) (h:JJ t):Shape false f (.mk 12 t 0 a [] [k,l])
 | op (f:Bool) (t:Tx) (a:Int) (k l:Nd) (h:t∈jP):Shape false f (.mk 13 t 0 a [] [k,l])
 | sq (a:Int) (k l:Nd):Shape false false (.mk 14 [] 0 a [] [k,l])
 | key1 (f:Bool) (kd a:Int) (k:Nd) (h:kd=15∨kd=16∨kd=17∨kd=18∨kd=21∨kd=22):Shape false f (.mk kd [] 0 a [] [k])
 | key2 (f:Bool) (kd a:Int) (k l:Nd) (h:kd=23∨kd=20):Shape false f (.mk kd [] 0 a [] [k,l])
inductive WX:Bool→Nat→Bool→Nd→Prop where
 | mk (pt:Bool) (r:Nat) (f:Bool) (n:Nd) (hs:Shape pt f n)
  (h1:∀ i c,n.kids[i]?=some c→(ZA pt f n.kind n.text i).d+(if JX (ZA pt f n.kind n.text i).m c=true then 1 else 0)≤r)
  (h2:∀ i c,n.kids[i]?=some c→JX (ZA pt f n.kind n.text i).m c=true→WX (ZA pt f n.kind n.text i).pt (r-(ZA pt f n.kind n.text i).d-1) false c)
  (h3:∀ i c,n.kids[i]?=some c→JX (ZA pt f n.kind n.text i).m c=false→WX (ZA pt f n.kind n.text i).pt (r-(ZA pt f n.kind n.text i).d) (ZA pt f n.kind n.text i).f c):WX pt r f n
def WK(pt:Bool)(r:Nat)(f:Bool)(m:Int)(c:Nd):Prop:=(JX m c=true∧∃ s,r=s+1∧WX pt s false c)∨(JX m c=false∧WX pt r f c)
def WS(r:Nat)(s:Slot)(c:Nd):Prop:=s.d≤r∧WK s.pt (r-s.d) s.f s.m c
theorem WX.shape{pt r f n}(h:WX pt r f n):Shape pt f n:=by cases h;assumption
theorem WX.kid{pt r f n}(h:WX pt r f n){i:Nat}{c:Nd}(hc:n.kids[i]?=some c):WS r (ZA pt f n.kind n.text i) c:=by
 cases h with
 | mk pt r f n hs h1 h2 h3 =>
  have a:=h1 i c hc;cases hb:JX (ZA pt f n.kind n.text i).m c with
  | true=>rw[if_pos hb] at a;exact⟨by omega,.inl ⟨hb,_,by omega,h2 i c hc hb⟩⟩
  | false=>rw[if_neg (by simp[hb])] at a;exact⟨by omega,.inr ⟨hb,h3 i c hc hb⟩⟩
theorem WX.of{pt:Bool}{r:Nat}{f:Bool}{n:Nd}(hs:Shape pt f n)(h:∀ i c,n.kids[i]?=some c→WS r (ZA pt f n.kind n.text i) c):WX pt r f n:=by
 refine .mk _ _ _ _ hs (fun i c hc=>?_) (fun i c hc hb=>?_) (fun i c hc hb=>?_)
 ·obtain⟨h1,⟨h2,s,h3,h4⟩ | ⟨h2,h3⟩⟩:=h i c hc
  ·rw[if_pos h2];omega
  ·rw[if_neg (by simp[h2])];omega
 ·obtain⟨h1,⟨h2,s,h3,h4⟩ | ⟨h2,h3⟩⟩:=h i c hc
  ·rw[h3];exact h4
  ·rw[hb] at h2;cases h2
 ·obtain⟨h1,⟨h2,s,h3,h4⟩ | ⟨h2,h3⟩⟩:=h i c hc
  ·rw[hb] at h2;cases h2
  ·exact h3
theorem vu(c:Nd):JX 7 c=false:=by
 unfold JX qO ZD;rw[decide_eq_false_iff_not];intro h;rcases h with h | h
 ·repeat' split at h
  all_goals omega
 ·omega
theorem fZ{c:Nd}:JX 6 c=true↔c.kind=14:=by
 unfold JX qO ZD;rw[decide_eq_true_eq];constructor
 ·intro h;rcases h with h | h
  ·repeat' split at h
   all_goals first | omega | assumption
  ·omega
 ·intro h;rw[if_pos h];exact .inl (by decide)
theorem LS{c:Nd}(h:c.kind=14){m:Int}(hm:m≤6):JX m c=true:=by
 unfold JX qO;rw[if_pos h,decide_eq_true_eq];exact .inl (by omega)
theorem F6{t:Tx}:3≤ZD t∧ZD t≤5:=by
 unfold ZD;repeat' split
 all_goals omega
theorem gH(pt f f':Bool)(k:Int)(t:Tx)(i:Nat) :
  ZA pt f' k t i=ZA pt f k t i∨((ZA pt f k t i).f=f∧(ZA pt f' k t i)=⟨(ZA pt f k t i).d,f',(ZA pt f k t i).m,(ZA pt f k t i).pt⟩∧(ZA pt f k t i).m≤5)∨((ZA pt f k t i)=⟨1,f,lo f,false⟩∧ZA pt f' k t i=⟨1,f',lo f',false⟩):=by
 have h1 := @F6 t;unfold ZA;split
 ·exact .inr (.inr ⟨rfl,rfl⟩)
 split
 ·refine .inr (.inl ⟨rfl,rfl,?_⟩);show (if i=0 then (1:Int) else 0)≤5;split <;> omega
 split
 ·exact .inl rfl
 split
 ·exact .inl rfl
 split
 ·refine .inr (.inl ⟨rfl,rfl,?_⟩);show (if i=0 then Vm t else V0 t)≤5;unfold Vm V0;repeat' split;all_goals omega
 split
 ·split
  ·exact .inr (.inl ⟨rfl,rfl,by show (5:Int)≤5;omega⟩)
  ·exact .inl rfl
 ·exact .inr (.inl ⟨rfl,rfl,by show (0:Int)≤5;omega⟩)
theorem vg{pt f:Bool}{n:Nd}(h:Shape pt f n)(f':Bool)(hf:f'=f∨n.kind≠14):Shape pt f' n:=by
 cases h with
 | sq a k l =>
  rcases hf with rfl | hf
  ·exact .sq a k l
  ·exact absurd rfl hf
 | int _ _ m a h=>exact .int _ _ m a h
 | text _ t a h=>exact .text _ t a h
 | unit _ a=>exact .unit _ a
 | retry _ a=>exact .retry _ a
 | any _ a=>exact .any _ a
 | name _ _ t a h=>exact .name _ _ t a h
 | con _ _ t a ks h hl=>exact .con _ _ t a ks h hl
 | fn _ t a k h=>exact .fn _ t a k h
 | call _ a k l=>exact .call _ a k l
 | lt _ t a k l h=>exact .lt _ t a k l h
 | rc _ t a k l h hk=>exact .rc _ t a k l h hk
 | iff _ a k l m=>exact .iff _ a k l m
 | mtch _ a ks h=>exact .mtch _ a ks h
 | tr _ t a k l h=>exact .tr _ t a k l h
 | op _ t a k l h=>exact .op _ t a k l h
 | key1 _ kd a k h=>exact .key1 _ kd a k h
 | key2 _ kd a k l h=>exact .key2 _ kd a k l h
theorem WX.mono{pt:Bool}{r:Nat}{f:Bool}{n:Nd}(h:WX pt r f n):∀ (r':Nat) (f':Bool),(f'=f∧r≤r')∨(f=false∧n.kind≠14∧r+1≤r')→WX pt r' f' n:=by
 induction h with
 | mk pt r f n hs h1 h2 h3 i2 i3 =>
  intro r' f' hh;refine .of (vg hs f' (by rcases hh with h | h <;> simp[h])) fun i c hc=>?_;have a1:=h1 i c hc;have a2:=i2 i c hc;have a3:=i3 i c hc;generalize hS:ZA pt f n.kind n.text i=S at a1 a2 a3;have same:r≤r'→WS r' S c:=by
   intro hr;cases hb:JX S.m c with
   | true=>rw[if_pos hb] at a1;exact⟨by omega,.inl ⟨hb,r'-S.d-1,by omega,a2 hb _ _ (.inl ⟨rfl,by omega⟩)⟩⟩
   | false=>rw[if_neg (by simp[hb])] at a1;exact⟨by omega,.inr ⟨hb,a3 hb _ _ (.inl ⟨rfl,by omega⟩)⟩⟩
  rcases hh with⟨rfl,hr⟩ | ⟨rfl,hk,hr⟩
  ·rw[hS];exact same hr
  rcases gH pt false f' n.kind n.text i with e | ⟨e1,e2,e3⟩ | ⟨e1,e2⟩
  ·rw[e,hS];exact same (by omega)
  ·rw[hS] at e1 e2 e3;rw[e2];cases hb:JX S.m c with
   | true=>rw[if_pos hb] at a1;exact⟨by show S.d≤r';omega,.inl ⟨hb,r'-S.d-1,by show r'-S.d=_;omega,a2 hb _ _ (.inl ⟨rfl,by omega⟩)⟩⟩
   | false =>
    rw[if_neg (by simp[hb])] at a1;refine⟨by show S.d≤r';omega,.inr ⟨hb,a3 hb _ _ (.inr ⟨e1,fun x=>?_,by show _≤r'-S.d;omega⟩)⟩⟩;rw[LS x (by omega)] at hb;cases hb
  ·rw[hS] at e1;subst e1;rw[e2];have hb:JX (lo false) c=false:=vu c;have a3:=a3 hb;rw[if_neg (by show ¬ JX (lo false) c=true;simp[hb])] at a1;have a1:1+0≤r:=a1;cases f' with
   | false=>exact⟨by show 1≤r';omega,.inr ⟨hb,a3 _ _ (.inl ⟨rfl,by show r-1≤r'-1;omega⟩)⟩⟩
   | true =>
    by_cases x:c.kind=14
    ·exact⟨by show 1≤r';omega,.inl ⟨LS x (by decide),r'-2,by show r'-1=_;omega,a3 _ _ (.inl ⟨rfl,by show r-1≤r'-2;omega⟩)⟩⟩
    ·refine⟨by show 1≤r';omega,.inr ⟨?_,a3 _ _ (.inr ⟨rfl,x,by show r-1+1≤r'-1;omega⟩)⟩⟩;show JX 6 c=false;cases hb6:JX 6 c with
     | false=>rfl
     | true=>exact absurd (fZ.1 hb6) x
theorem WX.deeper{pt:Bool}{r r':Nat}{f:Bool}{n:Nd}(h:WX pt r f n)(hr:r≤r'):WX pt r' f n:=h.mono _ _ (.inl ⟨rfl,hr⟩)
theorem WK.brackets{pt:Bool}{r:Nat}{c:Nd}(h:WX pt r false c)(f:Bool){m:Int}(hm:m≤lo f):WK pt (r+1) f m c:=by
 cases hb:JX m c with
 | true=>exact .inl ⟨hb,r,rfl,h⟩
 | false =>
  refine .inr ⟨hb,h.mono _ _ ?_⟩;cases f with
  | false=>exact .inl ⟨rfl,by omega⟩
  | true=>exact .inr ⟨rfl,fun x=>(by rw[LS x hm] at hb;cases hb),by omega⟩
theorem WK.up{pt:Bool}{r:Nat}{f:Bool}{m m':Int}{c:Nd}(h:WK pt r f m c)(hm:m≤m')(hl:m'≤lo f)(h5:¬ (c.kind=5∧m'=1)):WK pt r f m' c:=by
 rcases h with⟨hb,s,rfl,hx⟩ | ⟨hb,hx⟩
 ·exact .brackets hx f hl
 ·refine .inr ⟨?_,hx⟩;unfold JX at hb ⊢;rw[decide_eq_false_iff_not] at hb ⊢;rintro (x | x)
  ·exact hb (.inl (by omega))
  ·exact h5 x
end Go.AL
namespace Go.AL
def TG(t:Tk):Prop:=(t.kind=1→t.text=[]∧0≤t.num∧t.num≤4611686018427387903)∧(t.kind=2→t.text.length≤60∧t.num=0)∧(t.kind=3→JJ t.text∧t.num=0)∧(t.kind=4→gh t.text∧t.num=0)∧(t.kind=5→t.text=[45,62]∨∃ c∈signsL,t.text=[c])
variable {T:List Tk}
def E1(p q:PS):Prop:=q.e=0→p.e=0∧q.deep=p.deep∧q.flat=p.flat
theorem E1.refl{p:PS}:E1 p p:=fun h=>⟨h,rfl,rfl⟩
theorem E1.trans{p q r:PS}(x:E1 p q)(y:E1 q r):E1 p r:=fun h=>by
 obtain⟨a,b,c⟩:=y h;obtain⟨a',b',c'⟩:=x a;exact⟨a',by rw[b,b'],by rw[c,c']⟩
theorem E1.bad{p q:PS}(h:q.e≠0):E1 p q:=fun x=>absurd x h
theorem Jh(hT:∀ t∈T,TG t){p:PS}{t:Tk}(h:zE T p=some t):TG t:=by
 unfold zE at h;split at h
 ·exact hT t (List.mem_of_getElem? h)
 ·cases h;simp[TG,gQ]
theorem XH{p q:PS}{t:Tk}(h:ZG T p=some (t,q)):zE T p=some t∧E1 p q:=by
 unfold ZG at h;simp only[xoM,xpJ] at h;obtain⟨t',hl,rfl,rfl⟩:=h;refine⟨hl,?_⟩;split
 ·exact fun x=>⟨x,rfl,rfl⟩
 ·exact .refl
theorem ES{p q:PS}{s:Tx}{b:Bool}(h:Xc T s p=some (b,q)):E1 p q∧∀ t,zE T p=some t→isT t s=b:=by
 unfold Xc Ye at h;simp only[xoB,xoM] at h;obtain⟨c,⟨t,hl,rfl⟩,h⟩:=h;split at h
 ·simp only[xoM,xpJ] at h;obtain⟨⟨t',q'⟩,h2,rfl,rfl⟩:=h;refine⟨(XH h2).2,fun u hu=>?_⟩;rw[hl] at hu;cases hu;assumption
 ·cases h;refine⟨.refl,fun u hu=>?_⟩;rw[hl] at hu;cases hu;cases hb:isT t s with
  | false=>rfl
  | true=>exact absurd hb (by assumption)
theorem Q6{p q:PS}{s:Tx}(h:qp T s p=some q):E1 p q:=by
 unfold qp at h;simp only[xoB,xpX] at h;obtain⟨b,q',h1,h2⟩:=h;split at h2
 ·cases h2;exact (ES h1).1
 ·exact .bad (Ql h2 (by decide))
theorem H8{p q:PS}{k:Int}{t:Tk}(h:Qn T k p=some (t,q)):E1 p q∧(q.e=0→zE T p=some t∧t.kind=k):=by
 unfold Qn at h;simp only[xoB] at h;obtain⟨t1,hl,p1,h1,h2⟩:=h;obtain⟨g1,g0⟩:=XH h2;split at h1
 ·have:=Ql h1 (by decide);exact⟨.bad fun x=>this (g0 x).1,fun x=>absurd (g0 x).1 this⟩
 ·rename_i x;cases h1;rw[hl] at g1;cases g1;exact⟨g0,fun _=>⟨hl,Classical.not_not.1 x⟩⟩
theorem KA{p q:PS}{n m:Int}(h:ZE T n m p=some q):E1 p q∧(q.e=0→n<m):=by
 unfold ZE at h;split at h
 ·have:=Ql h (by decide);exact⟨.bad this,fun x=>absurd x this⟩
 ·cases h;exact⟨.refl,fun _=>by omega⟩
def SE(T:List Tk)(e:PM Nd):Prop:=∀ p nd q,e p=some (nd,q)→E1 p q∧(q.e=0→WK false (40-p.deep) p.flat (lo p.flat) nd∧∀ t,zE T p=some t→t.kind=6→t.text=[102,117,110]→nd.kind=6)
def SM(m:Int)(e:PM Nd):Prop:=∀ p nd q,e p=some (nd,q)→E1 p q∧(q.e=0→WK false (40-p.deep) p.flat m nd)
def SP(e:PM Nd):Prop:=∀ p nd q,e p=some (nd,q)→E1 p q∧(q.e=0→WX true (40-p.deep) false nd)
theorem rk{e:PM Nd}{p q:PS}{nd:Nd}(he:∀ p nd q,e p=some (nd,q)→E1 p q)(h:Ys T e p=some (nd,q)):E1 p q∧(q.e=0→p.deep<40∧∃ q',e { p with deep:=p.deep+1 }=some (nd,q')∧q'.e=0):=by
 unfold Ys at h;simp only[xoB] at h;obtain⟨p1,h1,h⟩:=h;split at h
 ·cases h;rename_i x;exact⟨.bad x,fun y=>absurd y x⟩
 ·rename_i x;have x:p1.e=0:=by simpa using x
  split at h1
  ·exact absurd x (Ql h1 (by decide))
  ·cases h1;rename_i hd;simp only[xoB,xpX] at h;obtain⟨r,p2,h2,h3⟩:=h;split at h3
   ·cases h3
   ·cases h3;have g:=he _ _ _ h2;refine⟨fun y=>?_,fun y=>⟨by omega,p2,h2,y⟩⟩;obtain⟨a,b,c⟩:=g y;exact⟨x,by show p2.deep-1=_;rw[b];rfl,c⟩
theorem SE.e{e:PM Nd}(h:SE T e):∀ p nd q,e p=some (nd,q)→E1 p q:=fun p nd q x=>(h p nd q x).1
theorem SP.e{e:PM Nd}(h:SP e):∀ p nd q,e p=some (nd,q)→E1 p q:=fun p nd q x=>(h p nd q x).1
theorem FT{e:PM Nd}(he:SE T e){p q:PS}{nd:Nd}(h:Ys T e p=some (nd,q)):E1 p q∧(q.e=0→WS (40-p.deep) ⟨1,p.flat,lo p.flat,false⟩ nd∧∀ t,zE T p=some t→t.kind=6→t.text=[102,117,110]→nd.kind=6):=by
 obtain⟨a,b⟩:=rk he.e h;refine⟨a,fun x=>?_⟩;obtain⟨h1,q',h2,h3⟩:=b x;obtain⟨_,g⟩:=he _ _ _ h2;obtain⟨g1,g2⟩:=g h3;refine⟨⟨by show 1≤40-p.deep;omega,?_⟩,g2⟩;show WK false (40-p.deep-1) _ _ _;rw[show 40-p.deep-1=40-(p.deep+1) by omega];exact g1
theorem o7{e:PM Nd}(he:SP e){p q:PS}{nd:Nd}(h:Ys T e p=some (nd,q)):E1 p q∧(q.e=0→p.deep<40∧WX true (40-p.deep-1) false nd):=by
 obtain⟨a,b⟩:=rk he.e h;refine⟨a,fun x=>?_⟩;obtain⟨h1,q',h2,h3⟩:=b x;have g:=(he _ _ _ h2).2 h3;rw[show 40-p.deep-1=40-(p.deep+1) by omega];exact⟨h1,g⟩
theorem UM{e:PM Nd}(he:SE T e){p q:PS}{nd:Nd}(h:Xe T e p=some (nd,q)):E1 p q∧(q.e=0→WS (40-p.deep) ⟨1,false,7,false⟩ nd):=by
 unfold Xe at h;simp only[xoM,xpX,xpJ] at h;obtain⟨r,p1,h1,rfl,rfl⟩:=h;obtain⟨a,b⟩:=FT he h1;exact⟨fun x=>⟨(a x).1,(a x).2.1,rfl⟩,fun x=>(b x).1⟩
theorem ml{kinds:List (Int×Int)}{p q:PS}{nd:Nd}(h:XC T kinds p=some (nd,q)):E1 p q∧(q.e=0→∃ t k,zE T p=some t∧(t.kind,k)∈kinds∧nd = .mk k t.text t.num t.pos [] []):=by
 unfold XC at h;simp only[xoB] at h;obtain⟨t,hl,h⟩:=h;split at h
 ·simp only[xoM,xpJ] at h;obtain⟨q',h1,rfl,rfl⟩:=h;have:=Ql h1 (by decide);exact⟨.bad this,fun x=>absurd x this⟩
 ·simp only[xoM,xpJ,xpX] at h;obtain⟨t',q',h1,rfl,rfl⟩:=h;rename_i hne;refine⟨(XH h1).2,fun _=>?_⟩;cases hf:kinds.find? fun q=>q.1==t.kind with
  | none=>rw[hf] at hne;exact absurd rfl hne
  | some y =>
   refine⟨t,y.2,hl,?_,rfl⟩;have h1:=List.mem_of_find?_eq_some hf;have h2:=List.find?_some hf;have h2:y.1=t.kind:=by simpa using h2
   rw[←h2];exact h1
theorem WX.leaf{pt:Bool}{r:Nat}{f:Bool}{k:Int}{t:Tx}{m a:Int}(h:Shape pt f (.mk k t m a [] [])):WX pt r f (.mk k t m a [] []) :=.of h fun i c hc=>by simp[Nd.kids] at hc
theorem cG{pt f:Bool}{r:Nat}{t:Tk}(ht:TG t){k:Int}(h:(t.kind,k)∈[((1:Int),(1:Int)),(3,4),(4,5)]∨(pt=false∧t.kind=2∧k=2)):WX pt r f (.mk k t.text t.num t.pos [] []):=by
 obtain⟨g1,g2,g3,g4,_⟩:=ht;refine .leaf ?_;rcases h with h | ⟨rfl,h1,rfl⟩
 ·simp only[List.mem_cons,xpJ,List.mem_nil_iff,or_false] at h;rcases h with⟨h1,rfl⟩ | ⟨h1,rfl⟩ | ⟨h1,rfl⟩
  ·obtain⟨a,b⟩:=g1 h1;rw[a];exact .int _ _ _ _ b
  ·obtain⟨a,b⟩:=g3 h1;rw[b];exact .name _ _ _ _ a
  ·obtain⟨a,b⟩:=g4 h1;rw[b];exact .con _ _ _ _ _ a (by simp)
 ·obtain⟨a,b⟩:=g2 h1;rw[b];exact .text _ _ _ a
theorem Kh{k:Int}(hk:k=1∨k=2∨k=3∨k=4∨k=5∨k=24∨k=19∨k=11∨k=12){m:Int}(hm:0≤m)(h5:¬ (k=5∧m=1))(t:Tx)(u a:Int)(ns:List Tx)(ks:List Nd)(hs:k=5→ks=[]):JX m (.mk k t u a ns ks)=false:=by
 unfold JX qO;rw[decide_eq_false_iff_not];simp only[Nd.kind,Nd.kids];rintro (x | x)
 ·rcases hk with rfl | rfl | rfl | rfl | rfl | rfl | rfl | rfl | rfl <;> first
   | (simp[qM] at x;omega)
   | (rw[hs rfl] at x;simp at x;omega)
 ·exact h5 x
def CN(pt:Bool)(r:Nat)(f:Bool)(nd:Nd):Prop:=∃ t a ks,nd = .mk 5 t 0 a [] ks∧gh t∧ks.length≤4∧∀ k∈ks,WK pt r f 0 k
theorem CN.x{pt:Bool}{r:Nat}{f:Bool}{nd:Nd}(h:CN pt r f nd):WX pt r f nd:=by
 obtain⟨t,a,ks,rfl,h1,h2,h3⟩:=h;refine .of (.con _ _ _ _ _ h1 h2) fun i c hc=>⟨Nat.zero_le _,h3 c (List.mem_of_getElem? hc)⟩
theorem CN.add{pt:Bool}{r:Nat}{f:Bool}{nd c:Nd}(h:CN pt r f nd)(hl:nd.kids.length<4)(hc:WK pt r f 0 c):CN pt r f (nd.addKid c):=by
 obtain⟨t,a,ks,rfl,h1,h2,h3⟩:=h;refine⟨t,a,ks++[c],rfl,h1,by simp[Nd.kids] at hl ⊢;omega,fun k hk=>?_⟩;rcases List.mem_append.1 hk with hk | hk
 ·exact h3 k hk
 ·rw[List.mem_singleton.1 hk];exact hc
theorem CN.start{pt:Bool}{r:Nat}{f:Bool}{t:Tk}(ht:TG t)(hk:t.kind=4):CN pt r f (.mk 5 t.text t.num t.pos [] []):=by
 obtain⟨a,b⟩:=ht.2.2.2.1 hk;exact⟨_,_,[],by rw[b],a,by simp,fun k hk=>by cases hk⟩
theorem WK.seven{pt:Bool}{r:Nat}{c:Nd}(h:WK pt r false 7 c):WX pt r false c:=by
 rcases h with⟨hb,_⟩ | ⟨_,h⟩
 ·rw[vu] at hb;cases hb
 ·exact h
theorem WK.mono{pt:Bool}{r r':Nat}{f:Bool}{m:Int}{c:Nd}(h:WK pt r f m c)(hr:r≤r'):WK pt r' f m c:=by
 rcases h with⟨hb,s,rfl,hx⟩ | ⟨hb,hx⟩
 ·exact .inl ⟨hb,r'-1,by omega,hx.deeper (by omega)⟩
 ·exact .inr ⟨hb,hx.deeper hr⟩
theorem WK.of{pt:Bool}{r:Nat}{f:Bool}{m:Int}{c:Nd}(hb:JX m c=false)(h:WX pt r f c):WK pt r f m c :=.inr ⟨hb,h⟩
theorem LO(hT:∀ t∈T,TG t){e:PM Nd}(he:SP e){p q:PS}{nd:Nd}(h:QW T e p=some (nd,q)):E1 p q∧(q.e=0→WK true (40-p.deep) false 0 nd∧∀ t,zE T p=some t→t.kind=4→nd = .mk 5 t.text t.num t.pos [] []):=by
 unfold QW at h;simp only[xoB,xpX] at h;obtain⟨t,hl,b,p1,h1,h⟩:=h;obtain⟨g1,g1'⟩:=ES h1;have no:∀ t',zE T p=some t'→t'.kind=4→∀ s,isT t' s=false:=fun t' _ hk=>kL (by rw[hk];decide) (by rw[hk];decide);split at h
 ·rename_i hb;cases h;refine⟨g1,fun hq=>⟨.of (Kh (by simp) (by decide) (by simp) _ _ _ _ _ (by simp)) (.leaf (.any _ _)),fun t' ht hk=>?_⟩⟩;have:=g1' t' ht;rw[no t' ht hk,hb] at this;cases this
 ·rename_i hb;have hb:b=false:=by simpa using hb
  subst hb;unfold Xc Ye at h1;rw[hl] at h1;have hz:=g1' t hl;simp only[xmS,xbS,hz,Yd,if_false,xsJ,xpJ,true_and] at h1;subst h1;simp only[xoB] at h;obtain⟨c,hc,h⟩:=h;unfold Ye at hc;rw[hl] at hc;simp only[xmS,xsJ] at hc;split at h
  ·rename_i hct;unfold Y0 at h;simp only[xoB,xoM,xpX,xpJ] at h;obtain⟨p2,k1,r,p3,k2,p4,k3,rfl,rfl⟩:=h;obtain⟨g3,g4⟩:=o7 he k2;have g2:=Q6 k1;have g5:=Q6 k3;refine⟨g2.trans (g3.trans g5),fun hq=>⟨?_,fun t' ht hk=>?_⟩⟩
   ·obtain⟨z1,_,_⟩:=g5 hq;obtain⟨z2,_,_⟩:=g3 z1;obtain⟨z3,z4,_⟩:=g2 z2;obtain⟨a,b⟩:=g4 z1;have:=WK.brackets b false (m:=0) (by decide);rw[z4] at a this;rwa[show 40-p.deep-1+1=40-p.deep by omega] at this
   ·have:=no t' ht hk [40];rw[hl] at ht;cases ht;rw[this] at hc;rw[←hc] at hct;cases hct
  ·obtain⟨a,b⟩:=ml h;refine⟨a,fun hq=>?_⟩;obtain⟨t',k,h1,h2,rfl⟩:=b hq;refine⟨.of (Kh ?_ (by decide) (by simp) _ _ _ _ _ (fun _=>rfl)) (cG (Jh hT h1) (.inl h2)),fun t2 ht hk=>?_⟩
   ·simp only[List.mem_cons,xpJ,List.mem_nil_iff,or_false] at h2;omega
   ·rw[h1] at ht;cases ht;simp only[List.mem_cons,xpJ,List.mem_nil_iff,or_false] at h2;have:k=5:=by omega
    rw[this]
theorem kX(hT:∀ t∈T,TG t){e:PM Nd}(he:SP e):∀ (n:Nat) (m:Bool) (nd:Nd) (p:PS) (r:Nd) (q:PS),JM T e n m nd p=some (r,q)→E1 p q
 | 0,_,_,_,_,_,h=>by cases h
 | n+1,m,nd,p,r,q,h=>by
  unfold JM at h;split at h
  ·simp only[xoB] at h;obtain⟨b,_,h⟩:=h;split at h
   ·simp only[xoB,xpX] at h;obtain⟨p1,h1,c,p2,h2,h4⟩:=h;exact (KA h1).1.trans ((LO hT he h2).1.trans (kX hT he n _ _ _ _ _ h4))
   ·cases h;exact .refl
  ·cases h;exact .refl
theorem nV(hT:∀ t∈T,TG t){e:PM Nd}(he:SP e){r0:Nat}:∀ (n:Nat) (m:Bool) (nd:Nd) (p:PS) (r:Nd) (q:PS),JM T e n m nd p=some (r,q)→40-p.deep=r0→(m=true→CN true r0 false nd)→q.e=0→(m=true→CN true r0 false r)∧(m=false→r=nd)
 | 0,_,_,_,_,_,h,_,_,_=>by cases h
 | n+1,m,nd,p,r,q,h,hr,hm,hq=>by
  unfold JM at h;split at h
  ·rename_i hmm;simp only[xoB] at h;obtain⟨b,_,h⟩:=h;split at h
   ·simp only[xoB,xpX] at h;obtain⟨p1,h1,c,p2,h2,h4⟩:=h;obtain⟨a1,b1⟩:=KA h1;obtain⟨a2,b2⟩:=LO hT he h2;have z2:=kX hT he _ _ _ _ _ _ h4 hq;obtain⟨z1,hd1,_⟩:=a2 z2.1;obtain⟨z0,hd0,_⟩:=a1 z1;have w:=(b2 z2.1).1;rw[hd0,hr] at w;have g:=nV hT he n _ _ _ _ _ h4 (by rw[hd1,hd0];exact hr) (fun _=>(hm hmm).add (by have:=b1 z1;omega) w) hq;exact⟨g.1,fun x=>absurd (hmm.symm.trans x) (by decide)⟩
   ·cases h;exact⟨fun _=>hm hmm,fun x=>absurd (hmm.symm.trans x) (by decide)⟩
  ·rename_i hmm;cases h;exact⟨fun x=>absurd x hmm,fun _=>rfl⟩
theorem Ld(hT:∀ t∈T,TG t):∀ n,SP (Qj T n)
 | 0=>fun _ _ _ h=>by cases h
 | n+1=>by
  intro p nd q h;unfold Qj HR at h;simp only[xoB,xpX] at h;obtain⟨t,hl,r,p1,h1,h2⟩:=h;obtain⟨a1,b1⟩:=LO hT (Ld hT n) h1;have a2:=kX hT (Ld hT n) _ _ _ _ _ _ h2;refine⟨a1.trans a2,fun hq=>?_⟩;have z1:=(a2 hq).1;obtain⟨c1,c2⟩:=b1 z1;have b:=nV hT (Ld hT n) (r0:=40-p.deep) _ _ _ _ _ _ h2 (by rw[(a1 z1).2.1]) (fun hm=>by
   have hk:t.kind=4:=by simpa using hm
   rw[c2 t hl hk];exact .start (Jh hT hl) hk) hq
  cases hk:t.kind==4 with
  | true=>exact (b.1 hk).x
  | false =>
   rw[b.2 hk];exact (c1.up (by decide) (by decide) (by simp)).seven
end Go.AL
namespace Go.AL
variable {T:List Tk}
theorem eB{pt:Bool}{r:Nat}{f:Bool}{n a:Nd}{s0:Slot}(hk:n.kids=[a])(hs:Shape pt f n)(e0:ZA pt f n.kind n.text 0=s0)(ha:WS r s0 a):WX pt r f n:=by
 refine .of hs fun i c hc=>?_;rw[hk] at hc;match i with
 | 0=>cases hc;rw[e0];exact ha
 | i+1=>simp at hc
theorem G3{pt:Bool}{r:Nat}{f:Bool}{n a b:Nd}{s0 s1:Slot}(hk:n.kids=[a,b])(hs:Shape pt f n)(e0:ZA pt f n.kind n.text 0=s0)(e1:ZA pt f n.kind n.text 1=s1)(ha:WS r s0 a)(hb:WS r s1 b):WX pt r f n:=by
 refine .of hs fun i c hc=>?_;rw[hk] at hc;match i with
 | 0=>cases hc;rw[e0];exact ha
 | 1=>cases hc;rw[e1];exact hb
 | i+2=>simp at hc
def MK(r:Nat)(nd:Nd):Prop:=∃ a ks,nd = .mk 11 [] 0 a [] ks∧ks.length % 2=1∧ks.length≤41∧∀ i c,ks[i]?=some c→WS r ⟨1,false,7,decide (i % 2=1)⟩ c
theorem MK.add{r:Nat}{nd c d:Nd}(h:MK r nd)(hl:nd.kids.length≤39)(hc:WS r ⟨1,false,7,true⟩ c)(hd:WS r ⟨1,false,7,false⟩ d):MK r (nd.addKids [c,d]):=by
 obtain⟨a,ks,rfl,h1,h2,h3⟩:=h;refine⟨a,ks++[c,d],rfl,by simp;omega,by simp[Nd.kids] at hl ⊢;omega,fun i x hx=>?_⟩;by_cases hi:i<ks.length
 ·rw[List.getElem?_append_left hi] at hx;exact h3 i x hx
 ·rw[List.getElem?_append_right (by omega)] at hx;obtain⟨j,rfl⟩:∃ j,i=ks.length+j:=⟨i-ks.length,by omega⟩;rw[Nat.add_sub_cancel_left] at hx;match j with
  | 0=>cases hx;rw[decide_eq_true (by omega)];exact hc
  | 1=>cases hx;rw[decide_eq_false (by omega)];exact hd
  | j+2=>simp at hx
theorem wu{e pt:PM Nd}(he:SE T e)(hp:SP pt){r0:Nat}:∀ (n:Nat) (m:Bool) (nd:Nd) (p:PS) (r:Nd) (q:PS),Q1 T e pt n m nd p=some (r,q)→E1 p q∧(40-p.deep=r0→MK r0 nd→q.e=0→MK r0 r∧nd.kids.length+(if m=true then 2 else 0)≤r.kids.length)
 | 0,_,_,_,_,_,h=>by cases h
 | n+1,m,nd,p,r,q,h=>by
  unfold Q1 at h;simp only[xoB] at h;obtain⟨b,hb,h⟩:=h;split at h
  ·simp only[xoB,xpX] at h;obtain⟨p1,h1,p2,h2,c,p3,h3,p4,h4,d,p5,h5,h6⟩:=h;obtain⟨a,b⟩:=wu he hp n _ _ _ _ _ h6;obtain⟨a5,b5⟩:=UM he h5;obtain⟨a3,b3⟩:=o7 hp h3;obtain⟨a1,b1⟩:=KA h1;have a2:=Q6 h2;have a4:=Q6 h4;refine⟨a1.trans (a2.trans (a3.trans (a4.trans (a5.trans a)))),fun hr hm hq=>?_⟩;have z5:=a hq;have z4:=a5 z5.1;have z3:=a4 z4.1;have z2:=a3 z3.1;have z1:=a2 z2.1;have z0:=a1 z1.1;have hl:nd.kids.length≤39:=by
    have g:=b1 z1.1;have e:Int.tdiv (nd.kids.length:Int) 2=((nd.kids.length / 2:Nat):Int):=by simp[Int.tdiv]
    rw[e] at g;omega
   obtain⟨g1,g2⟩:=b3 z3.1;rw[z1.2.1,z0.2.1] at g1 g2;have w5:=b5 z5.1;rw[z3.2.1,z2.2.1,z1.2.1,z0.2.1,hr] at w5;have hmk:MK r0 (nd.addKids [c,d]):=hm.add hl ⟨by show 1≤r0;omega,.of (vu _) (by rw[hr] at g2;exact g2)⟩ w5;obtain⟨x,y⟩:=b (by rw[z4.2.1,z3.2.1,z2.2.1,z1.2.1,z0.2.1];exact hr) hmk hq;refine⟨x,?_⟩;have hlen:(nd.addKids [c,d]).kids.length=nd.kids.length+2:=by cases nd;simp[Nd.addKids,Nd.kids]
   rw[hlen] at y;rw[if_neg (by decide)] at y;split <;> omega
  ·rename_i hbf;cases h;refine⟨.refl,fun hr hm hq=>⟨hm,?_⟩⟩;cases m with
   | true=>rw[if_pos rfl] at hb;cases hb;exact absurd rfl hbf
   | false=>rw[if_neg (by decide)];omega
theorem uh{t:Tk}{s:Tx}(h:isT t s=true):t.kind=5∨t.kind=6:=by
 unfold isT at h;simp only[Y4,Bool.or_eq_true,beq_iff_eq] at h;exact h.1
theorem og{e pt:PM Nd}(he:SE T e)(hp:SP pt){p q:PS}{nd:Nd}(h:JH T e pt p=some (nd,q)):E1 p q∧(q.e=0→WX false (40-p.deep) p.flat nd∧nd.kind=11):=by
 unfold JH at h;simp only[xoB,xoM,xpX,xpJ] at h;obtain⟨t,p1,h1,c,p2,h2,p3,h3,r,p4,h4,p5,h5,rfl,rfl⟩:=h;obtain⟨_,a1⟩:=XH h1;obtain⟨a2,b2⟩:=UM he h2;have a3:=Q6 h3;obtain⟨a4,b4⟩:=wu he hp (r0:=40-p.deep) _ _ _ _ _ _ h4;have a5:=Q6 h5;refine⟨a1.trans (a2.trans (a3.trans (a4.trans a5))),fun hq=>?_⟩;have z4:=a5 hq;have z3:=a4 z4.1;have z2:=a3 z3.1;have z1:=a2 z2.1;have z0:=a1 z1.1;have w2:=b2 z2.1;rw[z0.2.1] at w2;obtain⟨⟨a,ks,rfl,k1,k2,k3⟩,k4⟩:=b4 (by rw[z2.2.1,z1.2.1,z0.2.1]) ⟨_,[c],rfl,rfl,by simp,fun i x hx=>by
  match i with
  | 0=>cases hx;exact w2
  | i+1=>simp at hx⟩ z4.1
 refine⟨.of (.mtch _ _ _ ⟨k1,?_,k2⟩) fun i x hx=>?_,rfl⟩
 ·simp[zr,Nd.kids] at k4;omega
 ·have:=k3 i x hx;simpa[ZA,Nd.kind] using this
theorem I5(hT:∀ t∈T,TG t){e:PM Nd}(he:SE T e){p q:PS}{nd:Nd}(h:E6 T e p=some (nd,q)):E1 p q∧(q.e=0→WX false (40-p.deep) p.flat nd∧nd.kind=12):=by
 unfold E6 at h;simp only[xoB,xoM,xpX,xpJ] at h;obtain⟨t,p1,h1,c,p2,h2,p3,h3,u,p4,h4,p5,h5,d,p6,h6,p7,h7,rfl,rfl⟩:=h;obtain⟨_,a1⟩:=XH h1;obtain⟨a2,b2⟩:=UM he h2;have a3:=Q6 h3;obtain⟨a4,b4⟩:=H8 h4;have a5:=Q6 h5;obtain⟨a6,b6⟩:=UM he h6;have a7:=Q6 h7;refine⟨a1.trans (a2.trans (a3.trans (a4.trans (a5.trans (a6.trans a7))))),fun hq=>?_⟩;have z6:=a7 hq;have z5:=a6 z6.1;have z4:=a5 z5.1;have z3:=a4 z4.1;have z2:=a3 z3.1;have z1:=a2 z2.1;have z0:=a1 z1.1;obtain⟨hu,hk⟩:=b4 z4.1;have w2:=b2 z2.1;have w6:=b6 z6.1;rw[z0.2.1] at w2;rw[z4.2.1,z3.2.1,z2.2.1,z1.2.1,z0.2.1] at w6;exact⟨G3 (n:=zr 12 t.pos u.text [c,d]) rfl (.tr _ _ _ _ _ ((Jh hT hu).2.2.1 hk).1) (by simp[ZA,zr,Nd.kind] <;> rfl) (by simp[ZA,zr,Nd.kind] <;> rfl) w2 w6,rfl⟩
theorem Ea(hT:∀ t∈T,TG t){e pt:PM Nd}(he:SE T e)(hp:SP pt){p q:PS}{nd:Nd}(h:ZV T e pt p=some (nd,q)) :
  E1 p q∧(q.e=0→WK false (40-p.deep) p.flat 0 nd∧∀ t,zE T p=some t→(t.kind=4→nd = .mk 5 t.text t.num t.pos [] [])∧(t.kind≠4→WK false (40-p.deep) p.flat 1 nd)):=by
 have hlo:∀ f:Bool,(1:Int)≤lo f:=fun f=>by cases f <;> decide
 unfold ZV at h;simp only[xoB] at h;obtain⟨t,hl,h⟩:=h;have key:∀ s,isT t s=true→∀ {X:Prop},WK false (40-p.deep) p.flat 1 nd→∀ t',zE T p=some t'→(t'.kind=4→nd = .mk 5 t'.text t'.num t'.pos [] [])∧(t'.kind≠4→WK false (40-p.deep) p.flat 1 nd):=by
  intro s hs X hw t' ht;rw[hl] at ht;cases ht;have:=uh hs;exact⟨fun x=>by omega,fun _=>hw⟩
 have mk:∀ {k:Int} {tx:Tx} {u a:Int} {ns:List Tx} {ks:List Nd},(k=1∨k=2∨k=3∨k=4∨k=5∨k=24∨k=19∨k=11∨k=12)→k≠5→WX false (40-p.deep) p.flat (.mk k tx u a ns ks)→WK false (40-p.deep) p.flat 0 (.mk k tx u a ns ks)∧WK false (40-p.deep) p.flat 1 (.mk k tx u a ns ks):=by
  intro k tx u a ns ks hk h5 hx;exact⟨.of (Kh hk (by decide) (fun x=>h5 x.1) _ _ _ _ _ (fun x=>absurd x h5)) hx,.of (Kh hk (by decide) (fun x=>h5 x.1) _ _ _ _ _ (fun x=>absurd x h5)) hx⟩
 split at h
 ·rename_i hs;obtain⟨a,b⟩:=og he hp h;refine⟨a,fun hq=>?_⟩;obtain⟨w,hk⟩:=b hq;cases nd with
  | mk k tx u ps ns ks =>
   obtain⟨w0,w1⟩:=mk (by simp only[Nd.kind] at hk;simp[hk]) (by simp only[Nd.kind] at hk;omega) w;exact⟨w0,key _ hs (X:=True) w1⟩
 split at h
 ·rename_i hs;obtain⟨a,b⟩:=I5 hT he h;refine⟨a,fun hq=>?_⟩;obtain⟨w,hk⟩:=b hq;cases nd with
  | mk k tx u ps ns ks =>
   obtain⟨w0,w1⟩:=mk (by simp only[Nd.kind] at hk;simp[hk]) (by simp only[Nd.kind] at hk;omega) w;exact⟨w0,key _ hs (X:=True) w1⟩
 split at h
 ·rename_i hs;simp only[xoM,xpX,xpJ] at h;obtain⟨t',p1,h1,rfl,rfl⟩:=h;obtain⟨w0,w1⟩:=mk (k:=19) (by simp) (by decide) (.leaf (.retry p.flat t.pos));exact⟨(XH h1).2,fun hq=>⟨w0,key _ hs (X:=True) w1⟩⟩
 split at h
 ·rename_i hs;simp only[xoB,xpX] at h;obtain⟨t',p1,h1,b,p2,h2,h⟩:=h;have a1:=(XH h1).2;have a2:=(ES h2).1;split at h
  ·cases h;obtain⟨w0,w1⟩:=mk (k:=3) (by simp) (by decide) (.leaf (.unit p.flat t.pos));exact⟨a1.trans a2,fun hq=>⟨w0,key _ hs (X:=True) w1⟩⟩
  ·simp only[xoB,xoM,xpX,xpJ] at h;obtain⟨c,p3,h3,p4,h4,rfl,rfl⟩:=h;obtain⟨a3,b3⟩:=UM he h3;have a4:=Q6 h4;refine⟨a1.trans (a2.trans (a3.trans a4)),fun hq=>?_⟩;have z3:=a4 hq;have z2:=a3 z3.1;have z1:=a2 z2.1;have z0:=a1 z1.1;obtain⟨g1,g2⟩:=b3 z3.1;rw[z1.2.1,z0.2.1] at g1 g2;have g1:1≤40-p.deep:=g1;have g2:WK false (40-p.deep-1) false 7 c:=g2;have w:∀ m,m≤lo p.flat→WK false (40-p.deep) p.flat m c:=fun m hm=>by
    have:=WK.brackets g2.seven p.flat hm;rwa[show 40-p.deep-1+1=40-p.deep by omega] at this
   exact⟨w 0 (by have:=hlo p.flat;omega),key _ hs (X:=True) (w 1 (hlo _))⟩
 ·obtain⟨a,b⟩:=ml h;refine⟨a,fun hq=>?_⟩;obtain⟨t',k,h1,h2,rfl⟩:=b hq;rw[hl] at h1;cases h1;have hw:WX false (40-p.deep) p.flat (.mk k t.text t.num t.pos [] []):=cG (Jh hT hl) (by
   simp only[List.mem_cons,xpJ,List.mem_nil_iff,or_false] at h2;rcases h2 with⟨a,b⟩ | ⟨a,b⟩ | ⟨a,b⟩ | ⟨a,b⟩ <;> simp[a,b])
  simp only[List.mem_cons,xpJ,List.mem_nil_iff,or_false] at h2;refine⟨.of (Kh (by omega) (by decide) (by simp) _ _ _ _ _ (fun _=>rfl)) hw,fun t2 ht=>?_⟩;rw[hl] at ht;cases ht;refine⟨fun hk=>?_,fun hk=>?_⟩
  ·have:k=5:=by omega
   rw[this]
  ·exact (mk (by omega) (by omega) hw).2
theorem rt{r:Nat}{f:Bool}{a:Int}{n c:Nd}(hn:WK false r f 1 n)(hc:WK false r f 0 c):WK false r f 1 (zr 7 a [] [n,c]) :=
 .of (by unfold JX qO;simp[zr,Nd.kind]) (G3 (n:=zr 7 a [] [n,c]) rfl (.call _ _ _ _) (by simp[ZA,zr,Nd.kind] <;> rfl) (by simp[ZA,zr,Nd.kind] <;> rfl) ⟨Nat.zero_le _,hn⟩ ⟨Nat.zero_le _,hc⟩)
theorem vO(hT:∀ t∈T,TG t){e pt:PM Nd}(he:SE T e)(hp:SP pt){r0:Nat}{f0:Bool}:∀ (n:Nat) (m:Bool) (nd:Nd) (p:PS) (r:Nd) (q:PS),YM T e pt n m nd p=some (r,q)→E1 p q∧(40-p.deep=r0→p.flat=f0→(m=true→CN false r0 f0 nd)→(m=false→WK false r0 f0 1 nd)→q.e=0→(m=true→CN false r0 f0 r)∧(m=false→WK false r0 f0 1 r))
 | 0,_,_,_,_,_,h=>by cases h
 | n+1,m,nd,p,r,q,h=>by
  unfold YM at h;simp only[xoB] at h;obtain⟨t,hl,h⟩:=h;split at h
  ·split at h
   ·rename_i hmm;simp only[xoB,xpX] at h;obtain⟨p1,h1,c,p2,h2,h4⟩:=h;obtain⟨a1,b1⟩:=KA h1;obtain⟨a2,b2⟩:=Ea hT he hp h2;obtain⟨a,b⟩:=vO hT he hp n _ _ _ _ _ h4;refine⟨a1.trans (a2.trans a),fun hr hf hm1 hm2 hq=>?_⟩;have z2:=a hq;have z1:=a2 z2.1;have z0:=a1 z1.1;have w:=(b2 z2.1).1;rw[z0.2.1,z0.2.2,hr,hf] at w;exact b (by rw[z1.2.1,z0.2.1];exact hr) (by rw[z1.2.2,z0.2.2];exact hf) (fun x=>(hm1 x).add (by have:=b1 z1.1;omega) w) (fun x=>by rw[hmm] at x;cases x) hq
   ·rename_i hmm;simp only[xoB,xpX] at h;obtain⟨c,p2,h2,h4⟩:=h;obtain⟨a2,b2⟩:=Ea hT he hp h2;obtain⟨a,b⟩:=vO hT he hp n _ _ _ _ _ h4;refine⟨a2.trans a,fun hr hf hm1 hm2 hq=>?_⟩;have z2:=a hq;have z1:=a2 z2.1;have w:=(b2 z2.1).1;rw[hr,hf] at w;exact b (by rw[z1.2.1];exact hr) (by rw[z1.2.2];exact hf) (fun x=>absurd x hmm) (fun x=>rt (hm2 x) w) hq
  ·cases h;exact⟨.refl,fun _ _ hm1 hm2 _=>⟨hm1,hm2⟩⟩
theorem ng(s:Tx)(h:0<(qT s).1):(((qT s).1=15∨(qT s).1=16∨(qT s).1=17∨(qT s).1=18∨(qT s).1=21∨(qT s).1=22)∧(qT s).2=1)∨(((qT s).1=23∨(qT s).1=20)∧(qT s).2=2):=by
 unfold qT at h ⊢;repeat' split
 all_goals first | simp | skip
 simp_all
theorem u9{k:Int}(hk:k=15∨k=16∨k=17∨k=18∨k=21∨k=22∨k=23∨k=20)(t:Tx)(u a:Int)(ns:List Tx)(ks:List Nd):JX 2 (.mk k t u a ns ks)=false:=by
 unfold JX qO;rw[decide_eq_false_iff_not];simp only[Nd.kind,Nd.kids];rcases hk with rfl | rfl | rfl | rfl | rfl | rfl | rfl | rfl <;> simp[qM]
theorem I2(hT:∀ t∈T,TG t){e pt:PM Nd}(he:SE T e)(hp:SP pt):SM 2 (JD T e pt):=by
 intro p nd q h;have hlo:∀ f:Bool,(2:Int)≤lo f:=fun f=>by cases f <;> decide
 unfold JD at h;simp only[xoB] at h;obtain⟨t,hl,h⟩:=h;split at h
 ·rename_i hk;simp only[xoB,xpX] at h;obtain⟨t',p1,h1,h2⟩:=h;have a1:=(XH h1).2;rcases ng _ hk.2 with⟨k1,k2⟩ | ⟨k1,k2⟩
  ·rw[k2] at h2;unfold Xs at h2;simp only[show Int.toNat 1=1 from rfl,Xs,xoB,xpX,xsJ,xpJ] at h2;obtain⟨c,p2,h2,rfl,rfl⟩:=h2;obtain⟨a2,b2⟩:=Ea hT he hp h2;refine⟨a1.trans a2,fun hq=>?_⟩;have z1:=a2 hq;have z0:=a1 z1.1;have w:=(b2 hq).1;rw[z0.2.1,z0.2.2] at w;exact .of (u9 (by omega) _ _ _ _ _) (eB (n :=.mk (qT t.text).1 [] 0 t.pos [] [c]) rfl (.key1 _ _ _ _ k1) (by unfold ZA;simp only[Nd.kind];rw[if_neg (by omega),if_neg (by omega),if_neg (by omega),if_neg (by omega),if_neg (by omega),if_neg (by omega)]) ⟨Nat.zero_le _,w⟩)
  ·rw[k2] at h2;simp only[show Int.toNat 2=2 from rfl,Xs,xoB,xpX,xsJ,xpJ] at h2;obtain⟨c,p2,h2,d,p3,h3,rfl,rfl⟩:=h2;obtain⟨a2,b2⟩:=Ea hT he hp h2;obtain⟨a3,b3⟩:=Ea hT he hp h3;refine⟨a1.trans (a2.trans a3),fun hq=>?_⟩;have z2:=a3 hq;have z1:=a2 z2.1;have z0:=a1 z1.1;have w:=(b2 z2.1).1;have w3:=(b3 hq).1;rw[z0.2.1,z0.2.2] at w;rw[z1.2.1,z1.2.2,z0.2.1,z0.2.2] at w3;have e:∀ i,ZA false p.flat (qT t.text).1 [] i=⟨0,p.flat,0,false⟩:=fun i=>by
    unfold ZA;rw[if_neg (by omega),if_neg (by omega),if_neg (by omega),if_neg (by omega),if_neg (by omega),if_neg (by omega)]
   exact .of (u9 (by omega) _ _ _ _ _) (G3 (n :=.mk (qT t.text).1 [] 0 t.pos [] [c,d]) rfl (.key2 _ _ _ _ _ k1) (e 0) (e 1) ⟨Nat.zero_le _,w⟩ ⟨Nat.zero_le _,w3⟩)
 ·simp only[xoB,xpX] at h;obtain⟨c,p1,h1,h2⟩:=h;obtain⟨a1,b1⟩:=Ea hT he hp h1;obtain⟨a2,b2⟩:=vO hT he hp (r0:=40-p.deep) (f0:=p.flat) _ _ _ _ _ _ h2;refine⟨a1.trans a2,fun hq=>?_⟩;have z1:=a2 hq;have z0:=a1 z1.1;obtain⟨g1,g2⟩:=b1 z1.1;obtain⟨g3,g4⟩:=g2 t hl;obtain⟨x,y⟩:=b2 (by rw[z0.2.1]) z0.2.2 (fun hk=>by
   have hk:t.kind=4:=by simpa using hk
   rw[g3 hk];exact .start (Jh hT hl) hk) (fun hk=>g4 (by simpa using hk)) hq
  cases hk:t.kind==4 with
  | true =>
   have w:=(x hk);refine .of ?_ w.x;obtain⟨tx,a,ks,rfl,_⟩:=w;unfold JX qO;rw[decide_eq_false_iff_not];simp only[Nd.kind,Nd.kids];by_cases hz:0<ks.length <;> simp[hz]
  | false=>exact (y hk).up (by decide) (hlo _) (by simp)
theorem I6{r:Nat}{f:Bool}{a:Int}{t:Tx}{n c:Nd}{L:Int}(ht:t∈jP)(hL:ZD t=L)(hn:WK false r f (Vm t) n)(hc:WK false r f (V0 t) c):WK false r f L (zr 13 a t [n,c]) :=
 .of (by unfold JX qO;simp[zr,Nd.kind,Nd.text,hL]) (G3 (n:=zr 13 a t [n,c]) rfl (.op _ _ _ _ _ ht) (by simp[ZA,zr,Nd.kind] <;> rfl) (by simp[ZA,zr,Nd.kind] <;> rfl) ⟨Nat.zero_le _,hn⟩ ⟨Nat.zero_le _,hc⟩)
theorem uX{part:PM Nd}{L:Int}(hp:SM (L-1) part){signs:List Tx}(hs:∀ s∈signs,s∈jP∧ZD s=L)(hL:L≤4){r0:Nat}{f0:Bool}:∀ (n:Nat) (t:Tk) (nd:Nd) (p:PS) (r:Nd) (q:PS),J0 T part signs n t nd p=some (r,q)→E1 p q∧(40-p.deep=r0→p.flat=f0→WK false r0 f0 L nd→q.e=0→WK false r0 f0 L r)
 | 0,_,_,_,_,_,h=>by cases h
 | n+1,t,nd,p,r,q,h=>by
  unfold J0 at h;split at h
  ·rename_i ht;simp only[xoB,xpX] at h;obtain⟨t1,p1,h1,c,p2,h2,t2,h3,h4⟩:=h;have a1:=(XH h1).2;obtain⟨a2,b2⟩:=hp _ _ _ h2;obtain⟨a,b⟩:=uX hp hs hL n _ _ _ _ _ h4;refine⟨a1.trans (a2.trans a),fun hr hf hw hq=>?_⟩;have z2:=a hq;have z1:=a2 z2.1;have z0:=a1 z1.1;have w:=b2 z2.1;rw[z0.2.1,z0.2.2,hr,hf] at w;obtain⟨s1,s2⟩:=hs _ ht.2;refine b (by rw[z1.2.1,z0.2.1];exact hr) (by rw[z1.2.2,z0.2.2];exact hf) (I6 s1 s2 ?_ ?_) hq
   ·unfold Vm;rw[s2,if_neg (by omega)];exact hw
   ·unfold V0;rw[s2,if_neg (by omega)];exact w
  ·cases h;exact⟨.refl,fun _ _ hw _=>hw⟩
theorem ni{part:PM Nd}{L:Int}(hp:SM (L-1) part){signs:List Tx}(hs:∀ s∈signs,s∈jP∧ZD s=L)(hL:3≤L∧L≤4):SM L (J1 T part signs):=by
 intro p nd q h;unfold J1 at h;simp only[xoB,xpX] at h;obtain⟨c,p1,h1,t,h2,h3⟩:=h;obtain⟨a1,b1⟩:=hp _ _ _ h1;obtain⟨a,b⟩:=uX hp hs hL.2 (r0:=40-p.deep) (f0:=p.flat) _ _ _ _ _ _ h3;refine⟨a1.trans a,fun hq=>?_⟩;have z1:=a hq;have z0:=a1 z1.1;have hlo:(6:Int)≤lo p.flat:=by cases p.flat <;> decide
 exact b (by rw[z0.2.1]) z0.2.2 ((b1 z1.1).up (by omega) (by omega) (by omega)) hq
theorem IZ(hT:∀ t∈T,TG t){e pt:PM Nd}(he:SE T e)(hp:SP pt):SM 4 (E4 T e pt) :=
 ni (L:=4) (ni (L:=3) (I2 hT he hp) (signs:=VJ) (by decide) (by decide)) (signs:=signsP) (by decide) (by decide)
theorem ug{t:Tk}{s:Tx}(h:isT t s=true):t.text=s:=by
 unfold isT at h;simp only[Y4,beq_iff_eq] at h;exact h.2
theorem CP(hT:∀ t∈T,TG t){e pt:PM Nd}(he:SE T e)(hp:SP pt):SM 5 (W7 T e pt):=by
 have hs:=IZ hT he hp;intro p nd q h;unfold W7 at h;simp only[xoB,xpX] at h;obtain⟨c,p1,h1,t,h2,h⟩:=h;obtain⟨a1,b1⟩:=hs _ _ _ h1;have hlo:(6:Int)≤lo p.flat:=by cases p.flat <;> decide
 split at h
 ·rename_i ht;simp only[xoB,xoM,xpX,xpJ] at h;obtain⟨t1,p2,h3,d,p3,h4,rfl,rfl⟩:=h;have a2:=(XH h3).2;obtain⟨a3,b3⟩:=hs _ _ _ h4;refine⟨a1.trans (a2.trans a3),fun hq=>?_⟩;have z2:=a3 hq;have z1:=a2 z2.1;have z0:=a1 z1.1;have w3:=b3 hq;rw[z1.2.1,z1.2.2,z0.2.1,z0.2.2] at w3;have ht:t.text∈jP∧ZD t.text=5:=by
   rcases ht with ht | ht <;> rw[ug ht] <;> decide
  refine I6 ht.1 ht.2 ?_ ?_
  ·unfold Vm;rw[ht.2,if_pos rfl];exact b1 z1.1
  ·unfold V0;rw[ht.2,if_pos rfl];exact w3
 ·cases h;exact⟨a1,fun hq=>(b1 hq).up (by decide) (by omega) (by simp)⟩
theorem xg(hT:∀ t∈T,TG t){e:PM Nd}(he:SE T e){p q:PS}{x:Tx}{b:Bool}{v:Nd}(h:Xh T e p=some ((x,b,v),q)):E1 p q∧(q.e=0→JJ x∧WS (40-p.deep) ⟨1,p.flat,lo p.flat,false⟩ v∧(b=true→v.kind=6)):=by
 unfold Xh at h;simp only[xoB,xoM,xpX,xpJ] at h;obtain⟨b',p1,h1,t,p2,h2,p3,h3,p4,h4,w,p5,h5,⟨rfl,rfl,rfl⟩,rfl⟩:=h;have a1:=(ES h1).1;obtain⟨a2,b2⟩:=H8 h2;have a3:=Q6 h3;obtain⟨a5,b5⟩:=FT he h5;have g4:E1 p3 p4∧(p4.e=0→p4=p3∧(b'=true→p3.deep<40→Ye T [102,117,110] p3=some true)):=by
  split at h4
  ·rename_i hb;simp only[xoB] at h4;obtain⟨c,hc,h4⟩:=h4;split at h4
   ·rename_i hct;cases h4;exact⟨.refl,fun _=>⟨rfl,fun _ _=>by rw[hc,hct]⟩⟩
   ·have:=Ql h4 (by decide);exact⟨.bad this,fun y=>absurd y this⟩
  ·rename_i hb;cases h4;exact⟨.refl,fun _=>⟨rfl,fun y z=>absurd ⟨y,z⟩ hb⟩⟩
 refine⟨a1.trans (a2.trans (a3.trans (g4.1.trans a5))),fun hq=>?_⟩;have z4:=a5 hq;obtain⟨rfl,hfun⟩:=g4.2 z4.1;have z2:=a3 z4.1;have z1:=a2 z2.1;have z0:=a1 z1.1;obtain⟨hu,hk⟩:=b2 z2.1;obtain⟨w5,f5⟩:=b5 hq;rw[z2.2.1,z2.2.2,z1.2.1,z1.2.2,z0.2.1,z0.2.2] at w5;refine⟨((Jh hT hu).2.2.1 hk).1,w5,fun hb=>?_⟩;have hd:p4.deep<40:=by
  have:1≤40-p.deep:=w5.1;rw[z2.2.1,z1.2.1,z0.2.1];omega
 have hf:=hfun hb hd;unfold Ye at hf;simp only[xoM] at hf;obtain⟨u,hu,hf⟩:=hf;have hux:=ug hf;refine f5 u hu ?_ hux;rcases uh hf with h | h
 ·rcases (Jh hT hu).2.2.2.2 h with g | ⟨c,_,g⟩
  ·rw[hux] at g;cases g
  ·rw[hux] at g;cases g
 ·exact h
theorem rH(hT:∀ t∈T,TG t){e pt:PM Nd}(he:SE T e)(hp:SP pt):SE T (J9 T e pt):=by
 intro p nd q h;unfold J9 at h;simp only[xoB] at h;obtain⟨t,hl,h⟩:=h;have b6:∀ {k:Int} {tx:Tx} {a:Int} {ks:List Nd},(k=8∨k=9∨k=6∨k=10)→JX (lo p.flat) (zr k a tx ks)=false:=by
  intro k tx a ks hk;cases hf:p.flat with
  | false=>exact vu _
  | true =>
   cases hb:JX (lo true) (zr k a tx ks) with
   | false=>rfl
   | true=>have:=fZ.1 hb;simp only[zr,Nd.kind] at this;omega
 split at h
 ·rename_i ht;unfold Bg at h;simp only[xoB,xoM,xpX,xpJ] at h;obtain⟨t0,p1,h1,x,b,v,p2,h2,p3,h3,c,p4,h4,rfl,rfl⟩:=h;have a1:=(XH h1).2;obtain⟨a2,b2⟩:=xg hT he h2;have a3:=Q6 h3;obtain⟨a4,b4⟩:=FT he h4;refine⟨a1.trans (a2.trans (a3.trans a4)),fun hq=>⟨?_,fun u hu _ hx=>?_⟩⟩
  ·have z3:=a4 hq;have z2:=a3 z3.1;have z1:=a2 z2.1;have z0:=a1 z1.1;obtain⟨hx,w2,hf⟩:=b2 z2.1;have w4:=(b4 hq).1;rw[z0.2.1,z0.2.2] at w2;rw[z2.2.1,z2.2.2,z1.2.1,z1.2.2,z0.2.1,z0.2.2] at w4;refine .of (b6 (by cases b <;> simp)) ?_;cases b with
   | false=>exact G3 (n:=zr 8 t0.pos x [v,c]) rfl (.lt _ _ _ _ _ hx) (by simp[ZA,zr,Nd.kind] <;> rfl) (by simp[ZA,zr,Nd.kind] <;> rfl) w2 w4
   | true=>exact G3 (n:=zr 9 t0.pos x [v,c]) rfl (.rc _ _ _ _ _ hx (hf rfl)) (by simp[ZA,zr,Nd.kind] <;> rfl) (by simp[ZA,zr,Nd.kind] <;> rfl) w2 w4
  ·rw[hl] at hu;cases hu;rw[ht.2] at hx;cases hx
 split at h
 ·unfold Ll at h;simp only[xoB,xoM,xpX,xpJ] at h;obtain⟨t0,p1,h1,x,p2,h2,p3,h3,c,p4,h4,rfl,rfl⟩:=h;have a1:=(XH h1).2;obtain⟨a2,b2⟩:=H8 h2;have a3:=Q6 h3;obtain⟨a4,b4⟩:=FT he h4;refine⟨a1.trans (a2.trans (a3.trans a4)),fun hq=>⟨?_,fun u hu _ hx=>rfl⟩⟩;have z3:=a4 hq;have z2:=a3 z3.1;have z1:=a2 z2.1;have z0:=a1 z1.1;obtain⟨hx,hk⟩:=b2 z2.1;have w4:=(b4 hq).1;rw[z2.2.1,z2.2.2,z1.2.1,z1.2.2,z0.2.1,z0.2.2] at w4;exact .of (b6 (by simp)) (eB (n:=zr 6 t0.pos x.text [c]) rfl (.fn _ _ _ _ ((Jh hT hx).2.2.1 hk).1) (by simp[ZA,zr,Nd.kind] <;> rfl) w4)
 split at h
 ·rename_i ht;unfold JV at h;simp only[xoB,xoM,xpX,xpJ] at h;obtain⟨t0,p1,h1,c,p2,h2,p3,h3,d,p4,h4,p5,h5,f,p6,h6,rfl,rfl⟩:=h;have a1:=(XH h1).2;obtain⟨a2,b2⟩:=FT he h2;have a3:=Q6 h3;obtain⟨a4,b4⟩:=FT he h4;have a5:=Q6 h5;obtain⟨a6,b6'⟩:=FT he h6;refine⟨a1.trans (a2.trans (a3.trans (a4.trans (a5.trans a6)))),fun hq=>⟨?_,fun u hu _ hx=>?_⟩⟩
  ·have z5:=a6 hq;have z4:=a5 z5.1;have z3:=a4 z4.1;have z2:=a3 z3.1;have z1:=a2 z2.1;have z0:=a1 z1.1;have w2:=(b2 z2.1).1;have w4:=(b4 z4.1).1;have w6:=(b6' hq).1;rw[z0.2.1,z0.2.2] at w2;rw[z2.2.1,z2.2.2,z1.2.1,z1.2.2,z0.2.1,z0.2.2] at w4;rw[z4.2.1,z4.2.2,z3.2.1,z3.2.2,z2.2.1,z2.2.2,z1.2.1,z1.2.2,z0.2.1,z0.2.2] at w6;refine .of (b6 (by simp)) (.of (.iff _ _ _ _ _) fun i y hy=>?_);have e:ZA false p.flat (zr 10 t0.pos [] [c,d,f]).kind (zr 10 t0.pos [] [c,d,f]).text i=⟨1,p.flat,lo p.flat,false⟩:=by simp[ZA,zr,Nd.kind]
   show WS _ (ZA false p.flat (zr 10 t0.pos [] [c,d,f]).kind (zr 10 t0.pos [] [c,d,f]).text i) y;rw[e];match i with
   | 0=>cases hy;exact w2
   | 1=>cases hy;exact w4
   | 2=>cases hy;exact w6
   | i+3=>simp[Nd.kids,zr] at hy
  ·rw[hl] at hu;cases hu;rw[ht.2] at hx;cases hx
 ·rename_i hnf _;simp only[xoB,xpX] at h;obtain⟨c,p1,h1,b,p2,h2,h⟩:=h;obtain⟨a1,b1⟩:=CP hT he hp _ _ _ h1;have g2:E1 p1 p2∧(b=true→p1.flat=false):=by
   split at h2
   ·cases h2;exact⟨.refl,fun x=>by cases x⟩
   ·rename_i hf;exact⟨(ES h2).1,fun _=>by simpa using hf⟩
  have hfun:∀ u,zE T p=some u→u.kind=6→u.text=[102,117,110]→False:=fun u hu h6 hx=>by
   rw[hl] at hu;cases hu;exact hnf ⟨h6,hx⟩
  split at h
  ·rename_i hb;simp only[xoM,xpX,xpJ] at h;obtain⟨d,p3,h3,rfl,rfl⟩:=h;obtain⟨a3,b3⟩:=FT he h3;refine⟨a1.trans (g2.1.trans a3),fun hq=>⟨?_,fun u hu h6 hx=>(hfun u hu h6 hx).elim⟩⟩;have z2:=a3 hq;have z1:=g2.1 z2.1;have z0:=a1 z1.1;have hf:p.flat=false:=by rw[←z0.2.2];exact g2.2 hb
   have w1:=b1 z1.1;have w3:=(b3 hq).1;rw[z1.2.1,z1.2.2,z0.2.1,z0.2.2,hf] at w3;rw[hf] at w1 ⊢;exact .of (vu _) (G3 (n:=zr 14 c.pos [] [c,d]) rfl (.sq _ _ _) (by simp[ZA,zr,Nd.kind] <;> rfl) (by simp[ZA,zr,Nd.kind] <;> rfl) ⟨Nat.zero_le _,w1⟩ w3)
  ·cases h;refine⟨a1.trans g2.1,fun hq=>⟨?_,fun u hu h6 hx=>(hfun u hu h6 hx).elim⟩⟩;have z1:=g2.1 hq;have hlo:(5:Int)≤lo p.flat∧lo p.flat≠1:=by cases p.flat <;> decide
   exact (b1 z1.1).up hlo.1 (Int.le_refl _) (fun x=>hlo.2 x.2)
theorem uC(hT:∀ t∈T,TG t):∀ n,SE T (Z7 T n)
 | 0=>fun _ _ _ h=>by cases h
 | n+1=>rH hT (uC hT n) (Ld hT (n+1))
end Go.AL
namespace Go.AL
variable {T:List Tk}
inductive WT:Nat→Nd→Prop where
 | mk (r:Nat) (t:Tx) (a:Int) (ks:List Nd) (h:JJ t) (h1:∀ c∈ks,c.kids≠[]→1≤r) (h2:∀ c∈ks,c.kids≠[]→WT (r-1) c) (h3:∀ c∈ks,c.kids=[]→WT r c):WT r (.mk 27 t 0 a [] ks)
theorem WT.mono{r:Nat}{n:Nd}(h:WT r n):∀ {r':Nat},r≤r'→WT r' n:=by
 induction h with
 | mk r t a ks h h1 h2 h3 i2 i3 =>
  intro r' hr;exact .mk _ _ _ _ h (fun c hc x=>by have:=h1 c hc x;omega) (fun c hc x=>i2 c hc x (by have:=h1 c hc x;omega)) (fun c hc x=>i3 c hc x hr)
def Od(r:Nat)(c:Nd):Prop:=(c.kids≠[]→1≤r∧WT (r-1) c)∧(c.kids=[]→WT r c)
theorem WT.add{r:Nat}{n c:Nd}(h:WT r n)(hc:Od r c):WT r (n.addKid c):=by
 cases h with
 | mk r t a ks h h1 h2 h3 =>
  refine .mk _ _ _ _ h (fun x hx y=>?_) (fun x hx y=>?_) (fun x hx y=>?_) <;> rcases List.mem_append.1 hx with hx | hx
  ·exact h1 x hx y
  ·rw[List.mem_singleton.1 hx] at y;exact (hc.1 y).1
  ·exact h2 x hx y
  ·rw[List.mem_singleton.1 hx] at y ⊢;exact (hc.1 y).2
  ·exact h3 x hx y
  ·rw[List.mem_singleton.1 hx] at y ⊢;exact hc.2 y
def ST(e:PM Nd):Prop:=∀ p nd q,e p=some (nd,q)→E1 p q∧(q.e=0→WT (40-p.deep) nd)
theorem ST.e{e:PM Nd}(h:ST e):∀ p nd q,e p=some (nd,q)→E1 p q:=fun p nd q x=>(h p nd q x).1
theorem mv{e:PM Nd}(he:ST e){p q:PS}{nd:Nd}(h:Ys T e p=some (nd,q)):E1 p q∧(q.e=0→1≤40-p.deep∧WT (40-p.deep-1) nd):=by
 obtain⟨a,b⟩:=rk he.e h;refine⟨a,fun x=>?_⟩;obtain⟨h1,q',h2,h3⟩:=b x;have g:=(he _ _ _ h2).2 h3;rw[show 40-p.deep-1=40-(p.deep+1) by omega];exact⟨by omega,g⟩
theorem dN(hT:∀ t∈T,TG t){e:PM Nd}(he:ST e){r0:Nat}:∀ (n:Nat) (nd:Nd) (p:PS) (r:Nd) (q:PS),j' T e n nd p=some (r,q)→E1 p q∧(40-p.deep=r0→WT r0 nd→q.e=0→WT r0 r)
 | 0,_,_,_,_,h=>by cases h
 | n+1,nd,p,r,q,h=>by
  unfold j' at h;simp only[xoB] at h;obtain⟨t,hl,h⟩:=h;split at h
  ·rename_i hk;simp only[xoB,xpX] at h;obtain⟨t',p1,h1,h2⟩:=h;have a1:=(XH h1).2;obtain⟨a,b⟩:=dN hT he n _ _ _ _ h2;refine⟨a1.trans a,fun hr hw hq=>?_⟩;have z1:=a hq;have z0:=a1 z1.1;refine b (by rw[z0.2.1];exact hr) (hw.add ⟨fun x=>absurd rfl x,fun _=>?_⟩) hq;exact .mk _ _ _ [] ((Jh hT hl).2.2.1 hk).1 (fun c hc=>by cases hc) (fun c hc=>by cases hc) (fun c hc=>by cases hc)
  ·simp only[xoB] at h;obtain⟨b,hb,h⟩:=h;split at h
   ·unfold Y0 at h;simp only[xoB,xoM,xpX,xpJ] at h;obtain⟨c,p4,⟨p1,h1,c',p2,h2,p3,h3,rfl,rfl⟩,h4⟩:=h;have a1:=Q6 h1;obtain⟨a2,b2⟩:=mv he h2;have a3:=Q6 h3;obtain⟨a,b⟩:=dN hT he n _ _ _ _ h4;refine⟨a1.trans (a2.trans (a3.trans a)),fun hr hw hq=>?_⟩;have z3:=a hq;have z2:=a3 z3.1;have z1:=a2 z2.1;have z0:=a1 z1.1;have w:=b2 z2.1;rw[z0.2.1,hr] at w;exact b (by rw[z2.2.1,z1.2.1,z0.2.1];exact hr) (hw.add ⟨fun _=>w,fun _=>w.2.mono (by omega)⟩) hq
   ·cases h;exact⟨.refl,fun _ hw _=>hw⟩
theorem ee(hT:∀ t∈T,TG t):∀ n,ST (BC T n)
 | 0=>fun _ _ _ h=>by cases h
 | n+1=>by
  intro p nd q h;unfold BC ma at h;simp only[xoB,xpX] at h;obtain⟨t,p1,h1,h2⟩:=h;obtain⟨a1,b1⟩:=H8 h1;obtain⟨a,b⟩:=dN hT (ee hT n) (r0:=40-p.deep) _ _ _ _ _ h2;refine⟨a1.trans a,fun hq=>?_⟩;have z1:=a hq;have z0:=a1 z1.1;obtain⟨hl,hk⟩:=b1 z1.1;exact b (by rw[z0.2.1]) (.mk _ _ _ [] ((Jh hT hl).2.2.1 hk).1 (fun c hc=>by cases hc) (fun c hc=>by cases hc) (fun c hc=>by cases hc)) hq
def WC(r:Nat)(nd:Nd):Prop:=∃ t a ks,nd = .mk 26 t 0 a [] ks∧gh t∧ks.length≤4∧∀ c∈ks,1≤r∧WT (r-1) c
theorem pZ{e:PM Nd}(he:ST e){r0:Nat}:∀ (n:Nat) (m:Bool) (nd:Nd) (p:PS) (r:Nd) (q:PS),Um T e n m nd p=some (r,q)→E1 p q∧(40-p.deep=r0→WC r0 nd→q.e=0→WC r0 r)
 | 0,_,_,_,_,_,h=>by cases h
 | n+1,m,nd,p,r,q,h=>by
  unfold Um at h;split at h
  ·simp only[xoB,xpX] at h;obtain⟨p1,h1,c,p2,h2,b,p3,h3,h4⟩:=h;obtain⟨a1,b1⟩:=KA h1;obtain⟨a2,b2⟩:=mv he h2;have a3:=(ES h3).1;obtain⟨a,b⟩:=pZ he n _ _ _ _ _ h4;refine⟨a1.trans (a2.trans (a3.trans a)),fun hr hw hq=>?_⟩;have z3:=a hq;have z2:=a3 z3.1;have z1:=a2 z2.1;have z0:=a1 z1.1;have w:=b2 z2.1;rw[z0.2.1,hr] at w;refine b (by rw[z2.2.1,z1.2.1,z0.2.1];exact hr) ?_ hq;obtain⟨t,a',ks,rfl,g1,g2,g3⟩:=hw;refine⟨t,a',ks++[c],rfl,g1,?_,fun x hx=>?_⟩
   ·have:=b1 z1.1;simp[Nd.kids] at this ⊢;omega
   ·rcases List.mem_append.1 hx with hx | hx
    ·exact g3 x hx
    ·rw[List.mem_singleton.1 hx];exact w
  ·cases h;exact⟨.refl,fun _ hw _=>hw⟩
theorem IY(hT:∀ t∈T,TG t){e:PM Nd}(he:ST e){p q:PS}{nd:Nd}(h:HG T e p=some (nd,q)):E1 p q∧(q.e=0→WC (40-p.deep) nd):=by
 unfold HG at h;simp only[xoB,xpX] at h;obtain⟨t,p1,h1,b,p2,h2,h⟩:=h;obtain⟨a1,b1⟩:=H8 h1;have a2:=(ES h2).1;have start:p1.e=0→WC (40-p.deep) (zr 26 t.pos t.text []):=fun z=>by
  obtain⟨hl,hk⟩:=b1 z;exact⟨_,_,[],rfl,((Jh hT hl).2.2.2.1 hk).1,by simp,fun c hc=>by cases hc⟩
 split at h
 ·obtain⟨a,b⟩:=pZ he (r0:=40-p.deep) _ _ _ _ _ _ h;refine⟨a1.trans (a2.trans a),fun hq=>?_⟩;have z2:=a hq;have z1:=a2 z2.1;have z0:=a1 z1.1;exact b (by rw[z1.2.1,z0.2.1]) (start z1.1) hq
 ·cases h;exact⟨a1.trans a2,fun hq=>start (a2 hq).1⟩
theorem wo(hT:∀ t∈T,TG t):∀ (n:Nat) (nd:Nd) (p:PS) (r:Nd) (q:PS),QF T n nd p=some (r,q)→E1 p q∧∀ t a ns,nd = .mk 25 t 0 a ns []→ns.length≤4→(∀ s∈ns,JJ s)→q.e=0→∃ ns',r = .mk 25 t 0 a ns' []∧ns'.length≤4∧∀ s∈ns',JJ s
 | 0,_,_,_,_,h=>by cases h
 | n+1,nd,p,r,q,h=>by
  unfold QF at h;simp only[xoB] at h;obtain⟨t,hl,h⟩:=h;split at h
  ·rename_i hk;simp only[xoB,xpX] at h;obtain⟨p1,h1,t',p2,h2,h3⟩:=h;obtain⟨a1,b1⟩:=KA h1;obtain⟨hl2,a2⟩:=XH h2;obtain⟨a,b⟩:=wo hT n _ _ _ _ h3;refine⟨a1.trans (a2.trans a),fun tx ps ns hnd hlen hall hq=>?_⟩;have z2:=a hq;have z1:=a2 z2.1;subst hnd;have hpp:p1=p:=by
    unfold ZE at h1;split at h1
    ·exact absurd z1.1 (Ql h1 (by decide))
    ·cases h1;rfl
   subst hpp;rw[hl] at hl2;cases hl2;refine b tx ps (ns++[t.text]) rfl ?_ (fun s hs=>?_) hq
   ·have:=b1 z1.1;simp[Nd.names] at this ⊢;omega
   ·rcases List.mem_append.1 hs with hs | hs
    ·exact hall s hs
    ·rw[List.mem_singleton.1 hs];exact ((Jh hT hl).2.2.1 hk).1
  ·cases h;exact⟨.refl,fun tx ps ns hnd hlen hall _=>⟨ns,hnd,hlen,hall⟩⟩
theorem FH(hT:∀ t∈T,TG t){e:PM Nd}(he:ST e){r0:Nat}{tx:Tx}{ps:Int}{ns:List Tx}:∀ (n:Nat) (m:Bool) (nd:Nd) (p:PS) (r:Nd) (q:PS),Y7 T e n m nd p=some (r,q)→E1 p q∧∀ ks,40-p.deep=r0→nd = .mk 25 tx 0 ps ns ks→ks.length≤20→(∀ c∈ks,WC r0 c)→q.e=0→∃ ks',r = .mk 25 tx 0 ps ns ks'∧ks'.length≤20∧(∀ c∈ks',WC r0 c)∧ks.length+(if m=true then 1 else 0)≤ks'.length
 | 0,_,_,_,_,_,h=>by cases h
 | n+1,m,nd,p,r,q,h=>by
  unfold Y7 at h;split at h
  ·simp only[xoB,xpX] at h;obtain⟨p1,h1,c,p2,h2,b,p3,h3,h4⟩:=h;obtain⟨a1,b1⟩:=KA h1;obtain⟨a2,b2⟩:=IY hT he h2;have a3:=(ES h3).1;obtain⟨a,b⟩:=FH hT he (r0:=r0) (tx:=tx) (ps:=ps) (ns:=ns) n _ _ _ _ _ h4;refine⟨a1.trans (a2.trans (a3.trans a)),fun ks hr hnd hl hw hq=>?_⟩;have z3:=a hq;have z2:=a3 z3.1;have z1:=a2 z2.1;have z0:=a1 z1.1;have w:=b2 z2.1;rw[z0.2.1,hr] at w;subst hnd;obtain⟨ks',k1,k2,k3,k4⟩:=b (ks++[c]) (by rw[z2.2.1,z1.2.1,z0.2.1];exact hr) rfl (by have:=b1 z1.1;simp[Nd.kids] at this ⊢;omega) (fun x hx=>by
    rcases List.mem_append.1 hx with hx | hx
    ·exact hw x hx
    ·rw[List.mem_singleton.1 hx];exact w) hq
   refine⟨ks',k1,k2,k3,?_⟩;simp only[xlA,List.length_singleton] at k4;split <;> omega
  ·rename_i hm;cases h;refine⟨.refl,fun ks hr hnd hl hw hq=>⟨ks,hnd,hl,hw,?_⟩⟩;rw[if_neg (fun x=>hm ⟨x,hq⟩)];omega
inductive WD:Nat→Nd→Prop where
 | val (r:Nat) (t:Tx) (a:Int) (v:Nd) (h:JJ t) (hv:WS r ⟨1,true,6,false⟩ v):WD r (.mk 28 t 0 a [] [v])
 | rc (r:Nat) (t:Tx) (a:Int) (v:Nd) (h:JJ t) (hv:WS r ⟨1,true,6,false⟩ v) (hk:v.kind=6):WD r (.mk 29 t 0 a [] [v])
 | ty (r:Nat) (t:Tx) (a:Int) (ns:List Tx) (ks:List Nd) (h:JJ t) (hn:ns.length≤4) (hns:∀ s∈ns,JJ s) (hl:1≤ks.length∧ks.length≤20) (hks:∀ c∈ks,WC r c):WD r (.mk 25 t 0 a ns ks)
theorem aC(hT:∀ t∈T,TG t){e ty:PM Nd}(he:SE T e)(ht:ST ty){p q:PS}{nd:Nd}(h:Jy T e ty p=some (nd,q))(hf:p.e=0→p.flat=false):E1 p q∧(q.e=0→WD (40-p.deep) nd):=by
 unfold Jy at h;simp only[xoB,xoM,xpX,xpJ] at h;obtain⟨b,_,c,p1,h1,p2,h2,rfl,rfl⟩:=h;have a2:=Q6 h2;split at h1
 ·unfold Q9 at h1;simp only[xoB,xpX] at h1;obtain⟨t0,q0,k0,t,q1,k1,n1,q2,k2,q3,k3,k4⟩:=h1;have g0:=(XH k0).2;obtain⟨g1,w1⟩:=H8 k1;obtain⟨g2,w2⟩:=wo hT _ _ _ _ _ k2;have g3:=Q6 k3;by_cases hz:p2.e=0
  ·have y:=a2 hz;have g4:E1 q3 p1:=(FH hT ht (r0:=0) (tx:=[]) (ps:=0) (ns:=[]) _ _ _ _ _ _ k4).1;have z4:=g4 y.1;have z3:=g3 z4.1;have z2:=g2 z3.1;have z1:=g1 z2.1;have z0:=g0 z1.1;refine⟨g0.trans (g1.trans (g2.trans (g3.trans (g4.trans a2)))),fun _=>?_⟩;obtain⟨hl,hk⟩:=w1 z2.1;obtain⟨ns,rfl,l1,l2⟩:=w2 t.text t0.pos [] rfl (by simp) (fun s hs=>by cases hs) z3.1;obtain⟨ks,rfl,m1,m2,m3⟩:=(FH hT ht (r0:=40-p.deep) (tx:=t.text) (ps:=t0.pos) (ns:=ns) _ _ _ _ _ _ k4).2 [] (by rw[z3.2.1,z2.2.1,z1.2.1,z0.2.1]) rfl (by simp) (fun c hc=>by cases hc) y.1;exact .ty _ _ _ _ _ ((Jh hT hl).2.2.1 hk).1 l1 l2 ⟨by simpa using m3,m1⟩ m2
  ·exact⟨.bad hz,fun x=>absurd x hz⟩
 ·simp only[xoB,xoM,xpX,xpJ] at h1;obtain⟨t,p3,h3,x,b',v,p4,h4,rfl,rfl⟩:=h1;have a3:=(XH h3).2;obtain⟨a4,b4⟩:=xg hT he h4;by_cases hz:p2.e=0
  ·have y:=a2 hz;have z4:=a4 y.1;have z3:=a3 z4.1;obtain⟨hx,hv,hk⟩:=b4 y.1;have hv:WS (40-p3.deep) ⟨1,true,6,false⟩ v:=hv;rw[z3.2.1] at hv;refine⟨fun _=>⟨z3.1,?_,?_⟩,fun _=>?_⟩
   ·rw[y.2.1];show p4.deep=_;rw[z4.2.1];exact z3.2.1
   ·rw[y.2.2,hf z3.1]
   ·cases b' with
    | false=>exact .val _ _ _ _ hx hv
    | true=>exact .rc _ _ _ _ hx hv (hk rfl)
  ·exact⟨.bad hz,fun x=>absurd x hz⟩
theorem uU(hT:∀ t∈T,TG t){e ty:PM Nd}(he:SE T e)(ht:ST ty){r0:Nat}{a:Int}:∀ (n:Nat) (nd:Nd) (p:PS) (r:Nd) (q:PS),Y' T e ty n nd p=some (r,q)→(p.e=0→p.flat=false)→E1 p q∧∀ ks,40-p.deep=r0→nd = .mk 30 [] 0 a [] ks→ks.length≤60→(∀ c∈ks,WD r0 c)→q.e=0→∃ ks',r = .mk 30 [] 0 a [] ks'∧ks'.length≤60∧∀ c∈ks',WD r0 c
 | 0,_,_,_,_,h,_=>by cases h
 | n+1,nd,p,r,q,h,hf=>by
  unfold Y' at h;simp only[xoB] at h;obtain⟨a',_,b,_,h⟩:=h;split at h
  ·simp only[xoB,xpX] at h;obtain⟨p1,h1,c,p2,h2,h4⟩:=h;obtain⟨a1,b1⟩:=KA h1;have hf1:p1.e=0→p1.flat=false:=fun z=>by
    obtain⟨z0,_,z2⟩:=a1 z;rw[z2];exact hf z0
   obtain⟨a2,b2⟩:=aC hT he ht h2 hf1;obtain⟨a,b⟩:=uU hT he ht (r0:=r0) (a:=a) n _ _ _ _ h4 (fun z=>by
    obtain⟨z0,_,z2⟩:=a2 z;rw[z2];exact hf1 z0)
   refine⟨a1.trans (a2.trans a),fun ks hr hnd hl hw hq=>?_⟩;have z2:=a hq;have z1:=a2 z2.1;have z0:=a1 z1.1;have w:=b2 z2.1;rw[z0.2.1,hr] at w;subst hnd;exact b (ks++[c]) (by rw[z1.2.1,z0.2.1];exact hr) rfl (by have:=b1 z1.1;simp[Nd.kids] at this ⊢;omega) (fun x hx=>by
    rcases List.mem_append.1 hx with hx | hx
    ·exact hw x hx
    ·rw[List.mem_singleton.1 hx];exact w) hq
  ·cases h;exact⟨.refl,fun ks _ hnd hl hw _=>⟨ks,hnd,hl,hw⟩⟩
def WP(n:Nd):Prop:=∃ a ds e,n = .mk 30 [] 0 a [] (ds++[e])∧ds.length≤60∧(∀ c∈ds,WD 40 c)∧WS 40 ⟨1,false,7,false⟩ e
theorem vH(hT:∀ t∈T,TG t){n:Nd}{a:Int}(h:Jm T=some (n,a,0)):WP n:=by
 unfold Jm at h;simp only[xoM,xpX] at h;obtain⟨r,q,h,hr⟩:=h;unfold KE at h;simp only[xoB,xoM,xpX,xpJ] at h;obtain⟨t,k1,x,p1,k2,p2,k3,u,p3,k4,t',k5,p4,k6,rfl,rfl⟩:=h;split at hr
 ·rename_i z;cases hr;have g6:E1 p3 p4:=by
   split at k6
   ·exact .bad (Ql k6 (by decide))
   ·cases k6;exact .refl
  obtain⟨a4,b4⟩:=FT (uC hT 42) k4;have a3:=Q6 k3;obtain⟨a2,b2⟩:=uU hT (uC hT 42) (ee hT 42) (r0:=40) (a:=t.pos) _ _ _ _ _ k2 (fun _=>rfl);have z3:=g6 z;have z2:=a4 z3.1;have z1:=a3 z2.1;have z0:=a2 z1.1;obtain⟨ks,rfl,h1,h2⟩:=b2 [] rfl rfl (by simp) (fun c hc=>by cases hc) z1.1;have w:=(b4 z3.1).1;rw[z1.2.1,z1.2.2,z0.2.1,z0.2.2] at w;exact⟨t.pos,ks,u,rfl,h1,h2,w⟩
 ·rename_i z;simp only[xpJ] at hr;exact absurd hr.2.2 z
end Go.AL
