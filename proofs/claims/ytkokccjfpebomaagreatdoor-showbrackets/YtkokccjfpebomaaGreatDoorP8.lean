/- Two runs of the parser, side by side: over tokens that differ in their places alone (ex), or of which one stands within brackets. -/
import Derived.Test.YtkokccjfpebomaaGreatDoorP4
set_option linter.unusedSimpArgs false
set_option linter.unusedVariables false
namespace Go.AL
mutual
def qz:Nd→Nd→Bool
 | .mk k t n _ ns ks,.mk k' t' n' _ ns' ks'=>decide (k=k')&&decide (t=t')&&decide (n=n')&&decide (ns=ns')&&qf ks ks'
def qf:List Nd→List Nd→Bool
 | [],[]=>true
 | a::l,b::r=>qz a b&&qf l r
 | _,_=>false
end
theorem Gu:∀ {l1 l2 m1 m2:List Nd},qf l1 l2=true→qf m1 m2=true→qf (l1++m1) (l2++m2)=true
 | [],[],_,_,_,h=>h
 | a::l,b::r,m1,m2,h,h2=>by
  simp only[qf,Bool.and_eq_true] at h
  simp only[List.cons_append,qf,Bool.and_eq_true]
  exact⟨h.1,Gu h.2 h2⟩
 | [],_::_,_,_,h,_=>by simp[qf] at h
 | _::_,[],_,_,h,_=>by simp[qf] at h
theorem Y9:∀ {l1 l2:List Nd},qf l1 l2=true→l1.length=l2.length
 | [],[],_=>rfl
 | a::l,b::r,h=>by
  simp only[qf,Bool.and_eq_true] at h
  simp[Y9 h.2]
 | [],_::_,h=>by simp[qf] at h
 | _::_,[],h=>by simp[qf] at h
theorem Zs {a b:Nd} (h:qz a b=true):a.kind=b.kind∧a.text=b.text∧a.num=b.num∧a.names=b.names∧qf a.kids b.kids=true:=by
 cases a;cases b
 simp only[qz,Bool.and_eq_true,decide_eq_true_eq] at h
 obtain⟨⟨⟨⟨h1,h2⟩,h3⟩,h4⟩,h5⟩:=h
 exact⟨h1,h2,h3,h4,h5⟩
theorem W8 {a b:Nd} (h1:a.kind=b.kind) (h2:a.text=b.text) (h3:a.num=b.num) (h4:a.names=b.names) (h5:qf a.kids b.kids=true):qz a b=true:=by
 cases a;cases b
 simp only[qz,Bool.and_eq_true,decide_eq_true_eq]
 exact⟨⟨⟨⟨h1,h2⟩,h3⟩,h4⟩,h5⟩
theorem Qu {k a b:Int} {t:Tx} {l r:List Nd} (h:qf l r=true):qz (zT k a t l) (zT k b t r)=true:=W8 rfl rfl rfl rfl h
theorem Bl {a b:Nd} {l r:List Nd} (h:qz a b=true) (h2:qf l r=true):qz (a.addKids l) (b.addKids r)=true:=by
 obtain⟨h1,h3,h4,h5,h6⟩:=Zs h
 cases a;cases b
 exact W8 h1 h3 h4 h5 (Gu h6 h2)
theorem EH {a b:Nd} (h:qz a b=true):qf [a] [b]=true:=by simp[qf,h]
theorem V7 {a b c d:Nd} (h:qz a b=true) (h2:qz c d=true):qf [a,c] [b,d]=true:=by simp[qf,h,h2]
theorem nv {a b c d e f:Nd} (h:qz a b=true) (h2:qz c d=true) (h3:qz e f=true):qf [a,c,e] [b,d,f]=true:=by simp[qf,h,h2,h3]
theorem Dk {a b c d:Nd} (h:qz a b=true) (h2:qz c d=true):qz (a.addKid c) (b.addKid d)=true:=by
 rw[HT,HT];exact Bl h (EH h2)
structure Rel (d lo:Nat) (p1 p2:PS):Prop where
 lo:lo≤p1.pos
 pos:p2.pos=p1.pos+d
 deep:p2.deep=p1.deep+d
 flat:p2.flat=p1.flat
 e:p2.e=p1.e
def Ok (ex:Bool) (q1 q2:PS):Prop:=ex=true∨(q1.e=0∧q2.e=0)
def Sm (t1 t2:Tk):Prop:=t1.kind=t2.kind∧t1.text=t2.text∧t1.num=t2.num
structure TR (ex:Bool) (d lo:Nat) (T1 T2:List Tk):Prop where
 k1:TOK T1
 k2:TOK T2
 dx:ex=true→d=0
 tk:∀ i,lo≤i→i<T1.length→∃ t1 t2,T1[i]?=some t1∧T2[i+d]?=some t2∧(Sm t1 t2∨(ex=false∧i+1=T1.length∧t1.kind=0∧t2.kind=5∧t2.text=[41]))
structure Bd (T:List Tk) (m:Nat) (p:PS):Prop where
 lt:p.pos<T.length
 lo:m≤p.deep
 hi:p.deep≤40
variable {ex:Bool} {d lo:Nat} {T1 T2 T:List Tk}
theorem Bd.next {m:Nat} {p q:PS} (b:Bd T m p) (s:Step T p q):Bd T m q:=⟨s.lt,by rw[s.deep];exact b.lo,by rw[s.deep];exact b.hi⟩
theorem Ok.back {p1 p2 q1 q2:PS} (h:Ok ex q1 q2) (s1:Step T1 p1 q1) (s2:Step T2 p2 q2):Ok ex p1 p2:=h.imp id fun x=>⟨s1.e0 x.1,s2.e0 x.2⟩
theorem Ok.f {q1 q2:PS} (h:Ok ex q1 q2) (hx:ex=false):q1.e=0∧q2.e=0:=h.resolve_left (by rw[hx];decide)
theorem Tot.st {m:Nat} {e:PM Nd} (h:Tot T m e) {p:PS} (b:Bd T m p) {r:Nd} {q:PS} (hr:e p=some (r,q)):Step T p q∧Strict p q:=by
 obtain⟨nd,q',h1,h2,h3,_⟩:=h p b.lt b.lo b.hi
 rw[h1] at hr;cases hr;exact⟨h2,h3⟩
theorem Uu {p q:PS} (s:Step T p q) (x:Strict p q) (h:p.pos+1=T.length) (h0:p.e=0):q.e≠0:=fun z=>by
 have:=x h0 z;have:=s.lt;omega
def TkR (ex:Bool) (T1:List Tk) (p1:PS) (t1 t2:Tk):Prop:=Sm t1 t2∨(ex=false∧p1.pos+1=T1.length∧p1.e=0∧t1.kind=0∧t2.kind=5∧t2.text=[41])
theorem XZ (H:TR ex d lo T1 T2) {p1 p2:PS} (R:Rel d lo p1 p2) (hp:p1.pos<T1.length) {t1 t2:Tk} (h1:zR T1 p1=some t1) (h2:zR T2 p2=some t2):TkR ex T1 p1 t1 t2:=by
 unfold zR at h1 h2
 rw[R.e,R.pos] at h2
 by_cases he:p1.e=0
 ·rw[if_pos he] at h1 h2
  obtain⟨u1,u2,g1,g2,g3⟩:=H.tk p1.pos R.lo hp
  rw[h1] at g1;rw[h2] at g2
  cases g1;cases g2
  exact g3.imp id fun ⟨a,b,c⟩=>⟨a,b,he,c⟩
 ·rw[if_neg he] at h1 h2
  cases h1;cases h2;exact .inl ⟨rfl,rfl,rfl⟩
theorem Sm.isT {t1 t2:Tk} (h:Sm t1 t2) (s:Tx):isT t1 s=isT t2 s:=by unfold AL.isT;rw[h.1,h.2.1]
theorem TkR.isT {p1:PS} {t1 t2:Tk} (h:TkR ex T1 p1 t1 t2) {s:Tx} (hs:s≠[41]):isT t1 s=isT t2 s:=by
 rcases h with h | ⟨_,_,_,h1,h2,h3⟩
 ·exact h.isT s
 ·unfold AL.isT
  have e:([41]==s)=false:=beq_eq_false_iff_ne.2 (fun h=>hs h.symm)
  rw[h1,h2,h3,e];simp
theorem TkR.kind {p1:PS} {t1 t2:Tk} (h:TkR ex T1 p1 t1 t2) {k:Int} (h0:k≠0) (h5:k≠5):(t1.kind=k)=(t2.kind=k):=by
 rcases h with h | ⟨_,_,_,h1,h2,h3⟩
 ·rw[h.1]
 ·rw[h1,h2];exact propext ⟨fun x=>absurd x.symm h0,fun x=>absurd x.symm h5⟩
theorem TkR.sm {p1:PS} {t1 t2:Tk} (h:TkR ex T1 p1 t1 t2) (hk:t1.kind≠0):Sm t1 t2:=h.resolve_right fun x=>hk x.2.2.2.1
theorem Wa {p:PS} {s:Tx} {b:Bool} (h:Jn T s p=some b):∃ t,zR T p=some t∧b=isT t s:=by
 unfold Jn at h
 cases hl:zR T p with
 | none=>rw[hl] at h;cases h
 | some t=>rw[hl] at h;cases h;exact⟨t,rfl,rfl⟩
theorem km (H:TR ex d lo T1 T2) {p1 p2:PS} (R:Rel d lo p1 p2) (hp:p1.pos<T1.length) {s:Tx} (hs:s≠[41]) {b1 b2:Bool} (h1:Jn T1 s p1=some b1) (h2:Jn T2 s p2=some b2):b1=b2:=by
 obtain⟨t1,g1,rfl⟩:=Wa h1
 obtain⟨t2,g2,rfl⟩:=Wa h2
 exact (XZ H R hp g1 g2).isT hs
theorem qB {p q:PS} {t:Tk} (h:ZM T p=some (t,q)):zR T p=some t∧q=if p.e=0∧t.kind≠0 then { p with pos:=p.pos+1 } else p:=by
 unfold ZM at h
 cases hl:zR T p with
 | none=>rw[hl] at h;cases h
 | some u=>rw[hl] at h;cases h;exact⟨rfl,rfl⟩
theorem qQ (hT:TOK T) {p q:PS} (hp:p.pos<T.length) {t:Tk} (h:ZM T p=some (t,q)):Step T p q∧(t.kind≠0→Strict p q):=by
 obtain⟨h1,_⟩:=qB h
 obtain⟨q',h2,h3,_,h4,_⟩:=QF hT hp h1
 rw[h2] at h;cases h
 exact⟨h3,fun k _ _=>by have:=(h4 k).2;omega⟩
theorem Qe {p1 p2 q1 q2:PS} (R:Rel d lo p1 p2) {t1 t2:Tk} (h1:ZM T1 p1=some (t1,q1)) (h2:ZM T2 p2=some (t2,q2)) (hs:Sm t1 t2):Rel d lo q1 q2:=by
 obtain⟨_,rfl⟩:=qB h1
 obtain⟨_,rfl⟩:=qB h2
 rw[R.e,←hs.1]
 by_cases c:p1.e=0∧t1.kind≠0
 ·rw[if_pos c,if_pos c]
  exact⟨by show lo≤p1.pos+1;have:=R.lo;omega,by show p2.pos+1=p1.pos+1+d;have:=R.pos;omega,R.deep,R.flat,rfl⟩
 ·rw[if_neg c,if_neg c];exact R
theorem XA (hT:TOK T) {p q:PS} (hp:p.pos<T.length) {s:Tx} {b:Bool} (h:Xx T s p=some (b,q)):Step T p q:=by
 obtain⟨b',q',h1,h2,_⟩:=Vr hT hp s
 rw[h1] at h;cases h;exact h2
theorem Yz {p q:PS} {s:Tx} {b:Bool} (h:Xx T s p=some (b,q)):∃ t,zR T p=some t∧b=isT t s∧(if b=true then ZM T p=some (t,q) else q=p):=by
 unfold Xx at h
 simp only[Option.bind_eq_some_iff] at h
 obtain⟨b',h1,h2⟩:=h
 obtain⟨t,h3,rfl⟩:=Wa h1
 cases hb:isT t s with
 | true =>
  rw[hb] at h2
  simp only[if_true,Option.map_eq_some_iff,Prod.exists,Prod.mk.injEq] at h2
  obtain⟨u,q',h4,rfl,rfl⟩:=h2
  obtain⟨h5,_⟩:=qB h4
  rw[h3] at h5;cases h5
  exact⟨t,h3,hb.symm,by simpa using h4⟩
 | false =>
  rw[hb] at h2
  simp only[Bool.false_eq_true,if_false,Option.some.injEq,Prod.mk.injEq] at h2
  obtain⟨rfl,rfl⟩:=h2
  exact⟨t,h3,hb.symm,by simp⟩
theorem Ft (H:TR ex d lo T1 T2) {p1 p2 q1 q2:PS} (R:Rel d lo p1 p2) (hp:p1.pos<T1.length) {s:Tx} (hs:s≠[41]) {b1 b2:Bool} (h1:Xx T1 s p1=some (b1,q1)) (h2:Xx T2 s p2=some (b2,q2)):b1=b2∧Rel d lo q1 q2:=by
 obtain⟨t1,g1,e1,k1⟩:=Yz h1
 obtain⟨t2,g2,e2,k2⟩:=Yz h2
 have hR:=XZ H R hp g1 g2
 have he:b1=b2:=by rw[e1,e2];exact hR.isT hs
 subst he
 refine⟨rfl,?_⟩
 cases b1 with
 | true =>
  simp only[if_true] at k1 k2
  exact Qe R k1 k2 (hR.sm (QV e1.symm))
 | false =>
  simp only[Bool.false_eq_true,if_false] at k1 k2
  subst k1;subst k2;exact R
theorem Gc {p q:PS} {e:Int} (h:Za T e p=some q):q.pos=p.pos∧q.deep=p.deep∧q.flat=p.flat∧q.e=if p.e=0 then e else p.e:=by
 unfold Za at h
 by_cases c:p.e=0
 ·rw[if_pos c] at h ⊢
  cases hx:T[p.pos]? with
  | none=>rw[hx] at h;cases h
  | some t=>rw[hx] at h;cases h;exact⟨rfl,rfl,rfl,rfl⟩
 ·rw[if_neg c] at h ⊢;cases h;exact⟨rfl,rfl,rfl,rfl⟩
theorem Qa {p q:PS} {e:Int} (h:Za T e p=some q) (he:e≠0):q.e≠0:=by
 rw[(Gc h).2.2.2];split
 ·exact he
 ·assumption
theorem Le {p q:PS} (hp:p.pos<T.length) {e:Int} (h:Za T e p=some q):Step T p q:=by
 unfold Za at h
 by_cases c:p.e=0
 ·rw[if_pos c] at h
  cases hx:T[p.pos]? with
  | none=>rw[hx] at h;cases h
  | some t=>rw[hx] at h;cases h;exact⟨rfl,rfl,Nat.le_refl _,hp,fun x=>absurd c x⟩
 ·rw[if_neg c] at h;cases h;exact .refl hp
theorem VL {p1 p2 q1 q2:PS} (R:Rel d lo p1 p2) {e:Int} (h1:Za T1 e p1=some q1) (h2:Za T2 e p2=some q2):Rel d lo q1 q2:=by
 obtain⟨a1,a2,a3,a4⟩:=Gc h1
 obtain⟨b1,b2,b3,b4⟩:=Gc h2
 exact⟨by rw[a1];exact R.lo,by rw[a1,b1];exact R.pos,by rw[a2,b2];exact R.deep,by rw[a3,b3];exact R.flat,by rw[a4,b4,R.e]⟩
theorem WH {p q:PS} {s:Tx} (h:qJ T s p=some q):∃ b q',Xx T s p=some (b,q')∧(if b=true then q=q' else Za T 14 q'=some q):=by
 unfold qJ at h
 simp only[Option.bind_eq_some_iff,Prod.exists] at h
 obtain⟨b,q',h1,h2⟩:=h
 refine⟨b,q',h1,?_⟩
 cases b with
 | true=>simp only[if_true,Option.some.injEq] at h2 ⊢;exact h2.symm
 | false=>simpa using h2
theorem qj (hT:TOK T) {p q:PS} (hp:p.pos<T.length) {s:Tx} (h:qJ T s p=some q):Step T p q∧Strict p q:=by
 obtain⟨q',h1,h2,h3⟩:=Qj hT hp s
 rw[h1] at h;cases h;exact⟨h2,h3⟩
theorem QB (H:TR ex d lo T1 T2) {p1 p2 q1 q2:PS} (R:Rel d lo p1 p2) (hp:p1.pos<T1.length) {s:Tx} (h1:qJ T1 s p1=some q1) (h2:qJ T2 s p2=some q2) (o:Ok ex q1 q2):Rel d lo q1 q2:=by
 obtain⟨t1,g1,_⟩:=Zb hp
 obtain⟨b1,r1,m1,k1⟩:=WH h1
 obtain⟨b2,r2,m2,k2⟩:=WH h2
 obtain⟨u1,l1,e1,j1⟩:=Yz m1
 obtain⟨u2,l2,e2,j2⟩:=Yz m2
 have hR:=XZ H R hp l1 l2
 rcases hR with hS | ⟨hx,hend,h0,hk,_,_⟩
 ·have he:b1=b2:=by rw[e1,e2];exact hS.isT s
  subst he
  cases b1 with
  | true =>
   simp only[if_true] at k1 k2 j1 j2
   subst k1;subst k2
   exact Qe R j1 j2 hS
  | false =>
   simp only[Bool.false_eq_true,if_false] at k1 k2 j1 j2
   subst j1;subst j2
   exact VL R k1 k2
 ·obtain⟨s1,x1⟩:=qj H.k1 hp h1
  exact absurd (o.f hx).1 (Uu s1 x1 hend h0)
theorem WI {p q:PS} {k:Int} {t:Tk} (h:XV T k p=some (t,q)):∃ u p1,zR T p=some u∧(if u.kind≠k then Za T 14 p=some p1 else p1=p)∧ZM T p1=some (t,q):=by
 unfold XV at h
 simp only[Option.bind_eq_some_iff] at h
 obtain⟨u,h1,p1,h2,h3⟩:=h
 refine⟨u,p1,h1,?_,h3⟩
 by_cases c:u.kind≠k
 ·rw[if_pos c] at h2 ⊢;exact h2
 ·rw[if_neg c] at h2 ⊢;exact (Option.some.inj h2).symm
theorem Xq (hT:TOK T) {p q:PS} (hp:p.pos<T.length) {k:Int} (hk:k≠0) {t:Tk} (h:XV T k p=some (t,q)):Step T p q∧Strict p q:=by
 obtain⟨t',q',h1,h2,h3,_⟩:=VY hT hp hk
 rw[h1] at h;cases h;exact⟨h2,h3⟩
theorem Gp (H:TR ex d lo T1 T2) {p1 p2 q1 q2:PS} (R:Rel d lo p1 p2) (hp:p1.pos<T1.length) {k:Int} (hk:k≠0) {t1 t2:Tk} (h1:XV T1 k p1=some (t1,q1)) (h2:XV T2 k p2=some (t2,q2)) (o:Ok ex q1 q2):Rel d lo q1 q2∧Sm t1 t2:=by
 obtain⟨u1,a1,l1,c1,k1⟩:=WI h1
 obtain⟨u2,a2,l2,c2,k2⟩:=WI h2
 rcases XZ H R hp l1 l2 with hS | ⟨hx,hend,h0,_⟩
 ·rw[←hS.1] at c2
  by_cases c:u1.kind≠k
  ·rw[if_pos c] at c1 c2
   have R':=VL R c1 c2
   have n1:=Qa c1 (by decide)
   have n2:=Qa c2 (by decide)
   have v1:=(qB k1).1
   have v2:=(qB k2).1
   unfold zR at v1 v2
   rw[if_neg n1] at v1;rw[if_neg n2] at v2
   cases v1;cases v2
   exact⟨Qe R' k1 k2 ⟨rfl,rfl,rfl⟩,rfl,rfl,rfl⟩
  ·rw[if_neg c] at c1 c2
   subst c1;subst c2
   have v1:=(qB k1).1
   have v2:=(qB k2).1
   rw[l1] at v1;rw[l2] at v2
   cases v1;cases v2
   exact⟨Qe R k1 k2 hS,hS⟩
 ·obtain⟨s1,x1⟩:=Xq H.k1 hp hk h1
  exact absurd (o.f hx).1 (Uu s1 x1 hend h0)
theorem QE {p q:PS} (hp:p.pos<T.length) {n m:Int} (h:Z8 T n m p=some q):Step T p q:=by
 unfold Z8 at h
 split at h
 ·exact Le hp h
 ·cases h;exact .refl hp
theorem Dc {p1 p2 q1 q2:PS} (R:Rel d lo p1 p2) {n n' m:Int} (hn:n=n') (h1:Z8 T1 n m p1=some q1) (h2:Z8 T2 n' m p2=some q2):Rel d lo q1 q2:=by
 subst hn
 unfold Z8 at h1 h2
 split at h1
 ·rename_i c;rw[if_pos c] at h2;exact VL R h1 h2
 ·rename_i c;rw[if_neg c] at h2;cases h1;cases h2;exact R
def Z5 (ex:Bool) (d lo:Nat) (T1 T2:List Tk) (m k:Nat) (f1 f2:PM Nd):Prop:=∀ (p1 p2:PS) (r1:Nd) (q1:PS) (r2:Nd) (q2:PS),Bd T1 m p1→Bd T2 k p2→f1 p1=some (r1,q1)→f2 p2=some (r2,q2)→Rel d lo p1 p2→Ok ex q1 q2→Rel d lo q1 q2∧qz r1 r2=true
end Go.AL
