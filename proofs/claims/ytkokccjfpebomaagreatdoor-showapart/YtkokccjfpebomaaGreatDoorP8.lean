/- Two runs of the parser, side by side: over tokens that differ in their places alone (ex), or of which one stands within brackets. -/
import Derived.Test.YtkokccjfpebomaaGreatDoorP4
set_option linter.unusedSimpArgs false
set_option linter.unusedVariables false
namespace Go.AL
mutual
def qK:Nd→Nd→Bool
 | .mk k t n _ ns ks,.mk k' t' n' _ ns' ks'=>decide (k=k')&&decide (t=t')&&decide (n=n')&&decide (ns=ns')&&qb ks ks'
def qb:List Nd→List Nd→Bool
 | [],[]=>true
 | a::l,b::r=>qK a b&&qb l r
 | _,_=>false
end
theorem VQ:∀ {l1 l2:List Nd},qb l1 l2=true→l1.length=l2.length
 | [],[],_=>rfl
 | a::l,b::r,h=>by
  simp only[qb,Bool.and_eq_true] at h
  simp[VQ h.2]
 | [],_::_,h=>by simp[qb] at h
 | _::_,[],h=>by simp[qb] at h
theorem Zq {a b:Nd} (h:qK a b=true):a.kind=b.kind∧a.text=b.text∧a.num=b.num∧a.names=b.names∧qb a.kids b.kids=true:=by
 cases a;cases b
 simp only[qK,Bool.and_eq_true,decide_eq_true_eq] at h
 obtain⟨⟨⟨⟨h1,h2⟩,h3⟩,h4⟩,h5⟩:=h
 exact⟨h1,h2,h3,h4,h5⟩
theorem zmu {a b:Nd} (h1:a.kind=b.kind) (h2:a.text=b.text) (h3:a.num=b.num) (h4:a.names=b.names) (h5:qb a.kids b.kids=true):qK a b=true:=by
 cases a;cases b
 simp only[qK,Bool.and_eq_true,decide_eq_true_eq]
 exact⟨⟨⟨⟨h1,h2⟩,h3⟩,h4⟩,h5⟩
structure Rel (d lo:Nat) (p1 p2:PS):Prop where
 lo:lo≤p1.pos
 pos:p2.pos=p1.pos+d
 deep:p2.deep=p1.deep+d
 flat:p2.flat=p1.flat
 e:p2.e=p1.e
def Ok (ex:Bool) (q1 q2:PS):Prop:=ex=true∨(q1.e=0∧q2.e=0)
def Sm (t1 t2:Tk):Prop:=t1.kind=t2.kind∧t1.text=t2.text∧t1.num=t2.num
structure TR (ex:Bool) (d lo:Nat) (T1 T2:List Tk):Prop where
 k1:TOK T1
 k2:TOK T2
 dx:ex=true→d=0
 tk:∀ i,lo≤i→i<T1.length→∃ t1 t2,T1[i]?=some t1∧T2[i+d]?=some t2∧(Sm t1 t2∨(ex=false∧i+1=T1.length∧t1.kind=0∧t2.kind=5∧t2.text=[41]))
structure Bd (T:List Tk) (m:Nat) (p:PS):Prop where
 lt:p.pos<T.length
 lo:m≤p.deep
 hi:p.deep≤40
variable {ex:Bool} {d lo:Nat} {T1 T2 T:List Tk}
theorem Bd.next {m:Nat} {p q:PS} (b:Bd T m p) (s:Step T p q):Bd T m q:=⟨s.lt,by rw[s.deep];exact b.lo,by rw[s.deep];exact b.hi⟩
theorem Ok.back {p1 p2 q1 q2:PS} (h:Ok ex q1 q2) (s1:Step T1 p1 q1) (s2:Step T2 p2 q2):Ok ex p1 p2:=h.imp id fun x=>⟨s1.e0 x.1,s2.e0 x.2⟩
theorem Ok.f {q1 q2:PS} (h:Ok ex q1 q2) (hx:ex=false):q1.e=0∧q2.e=0:=h.resolve_left (by rw[hx];decide)
theorem Tot.st {m:Nat} {e:PM Nd} (h:Tot T m e) {p:PS} (b:Bd T m p) {r:Nd} {q:PS} (hr:e p=some (r,q)):Step T p q∧Strict p q:=by
 obtain⟨nd,q',h1,h2,h3,_⟩:=h p b.lt b.lo b.hi
 rw[h1] at hr;cases hr;exact⟨h2,h3⟩
def TkR (ex:Bool) (T1:List Tk) (p1:PS) (t1 t2:Tk):Prop:=Sm t1 t2∨(ex=false∧p1.pos+1=T1.length∧p1.e=0∧t1.kind=0∧t2.kind=5∧t2.text=[41])
theorem Sm.isT {t1 t2:Tk} (h:Sm t1 t2) (s:Tx):isT t1 s=isT t2 s:=by unfold AL.isT;rw[h.1,h.2.1]
theorem TkR.isT {p1:PS} {t1 t2:Tk} (h:TkR ex T1 p1 t1 t2) {s:Tx} (hs:s≠[41]):isT t1 s=isT t2 s:=by
 rcases h with h | ⟨_,_,_,h1,h2,h3⟩
 ·exact h.isT s
 ·unfold AL.isT
  have e:([41]==s)=false:=beq_eq_false_iff_ne.2 (fun h=>hs h.symm)
  rw[h1,h2,h3,e];simp
theorem TkR.kind {p1:PS} {t1 t2:Tk} (h:TkR ex T1 p1 t1 t2) {k:Int} (h0:k≠0) (h5:k≠5):(t1.kind=k)=(t2.kind=k):=by
 rcases h with h | ⟨_,_,_,h1,h2,h3⟩
 ·rw[h.1]
 ·rw[h1,h2];exact propext ⟨fun x=>absurd x.symm h0,fun x=>absurd x.symm h5⟩
theorem zed {p:PS} {s:Tx} {b:Bool} (h:Y1 T s p=some b):∃ t,zX T p=some t∧b=isT t s:=by
 unfold Y1 at h
 cases hl:zX T p with
 | none=>rw[hl] at h;cases h
 | some t=>rw[hl] at h;cases h;exact⟨t,rfl,rfl⟩
theorem zab {p q:PS} {t:Tk} (h:ZP T p=some (t,q)):zX T p=some t∧q=if p.e=0∧t.kind≠0 then { p with pos:=p.pos+1 } else p:=by
 unfold ZP at h
 cases hl:zX T p with
 | none=>rw[hl] at h;cases h
 | some u=>rw[hl] at h;cases h;exact⟨rfl,rfl⟩
theorem Xb (hT:TOK T) {p q:PS} (hp:p.pos<T.length) {t:Tk} (h:ZP T p=some (t,q)):Step T p q∧(t.kind≠0→Strict p q):=by
 obtain⟨h1,_⟩:=zab h
 obtain⟨q',h2,h3,_,h4,_⟩:=Qq hT hp h1
 rw[h2] at h;cases h
 exact⟨h3,fun k _ _=>by have:=(h4 k).2;omega⟩
theorem Vu (hT:TOK T) {p q:PS} (hp:p.pos<T.length) {s:Tx} {b:Bool} (h:Xz T s p=some (b,q)):Step T p q:=by
 obtain⟨b',q',h1,h2,_⟩:=JY hT hp s
 rw[h1] at h;cases h;exact h2
theorem zrW {p q:PS} {s:Tx} {b:Bool} (h:Xz T s p=some (b,q)):∃ t,zX T p=some t∧b=isT t s∧(if b=true then ZP T p=some (t,q) else q=p):=by
 unfold Xz at h
 simp only[Option.bind_eq_some_iff] at h
 obtain⟨b',h1,h2⟩:=h
 obtain⟨t,h3,rfl⟩:=zed h1
 cases hb:isT t s with
 | true =>
  rw[hb] at h2
  simp only[if_true,Option.map_eq_some_iff,Prod.exists,Prod.mk.injEq] at h2
  obtain⟨u,q',h4,rfl,rfl⟩:=h2
  obtain⟨h5,_⟩:=zab h4
  rw[h3] at h5;cases h5
  exact⟨t,h3,hb.symm,by simpa using h4⟩
 | false =>
  rw[hb] at h2
  simp only[Bool.false_eq_true,if_false,Option.some.injEq,Prod.mk.injEq] at h2
  obtain⟨rfl,rfl⟩:=h2
  exact⟨t,h3,hb.symm,by simp⟩
theorem zqO {p q:PS} {e:Int} (h:Zc T e p=some q):q.pos=p.pos∧q.deep=p.deep∧q.flat=p.flat∧q.e=if p.e=0 then e else p.e:=by
 unfold Zc at h
 by_cases c:p.e=0
 ·rw[if_pos c] at h ⊢
  cases hx:T[p.pos]? with
  | none=>rw[hx] at h;cases h
  | some t=>rw[hx] at h;cases h;exact⟨rfl,rfl,rfl,rfl⟩
 ·rw[if_neg c] at h ⊢;cases h;exact⟨rfl,rfl,rfl,rfl⟩
theorem Ys {p q:PS} {e:Int} (h:Zc T e p=some q) (he:e≠0):q.e≠0:=by
 rw[(zqO h).2.2.2];split
 ·exact he
 ·assumption
theorem zg2 {p q:PS} (hp:p.pos<T.length) {e:Int} (h:Zc T e p=some q):Step T p q:=by
 unfold Zc at h
 by_cases c:p.e=0
 ·rw[if_pos c] at h
  cases hx:T[p.pos]? with
  | none=>rw[hx] at h;cases h
  | some t=>rw[hx] at h;cases h;exact⟨rfl,rfl,Nat.le_refl _,hp,fun x=>absurd c x⟩
 ·rw[if_neg c] at h;cases h;exact .refl hp
theorem zoH {p q:PS} {s:Tx} (h:qF T s p=some q):∃ b q',Xz T s p=some (b,q')∧(if b=true then q=q' else Zc T 14 q'=some q):=by
 unfold qF at h
 simp only[Option.bind_eq_some_iff,Prod.exists] at h
 obtain⟨b,q',h1,h2⟩:=h
 refine⟨b,q',h1,?_⟩
 cases b with
 | true=>simp only[if_true,Option.some.injEq] at h2 ⊢;exact h2.symm
 | false=>simpa using h2
theorem Zt (hT:TOK T) {p q:PS} (hp:p.pos<T.length) {s:Tx} (h:qF T s p=some q):Step T p q∧Strict p q:=by
 obtain⟨q',h1,h2,h3⟩:=Z3 hT hp s
 rw[h1] at h;cases h;exact⟨h2,h3⟩
theorem zfv {p q:PS} {k:Int} {t:Tk} (h:Yg T k p=some (t,q)):∃ u p1,zX T p=some u∧(if u.kind≠k then Zc T 14 p=some p1 else p1=p)∧ZP T p1=some (t,q):=by
 unfold Yg at h
 simp only[Option.bind_eq_some_iff] at h
 obtain⟨u,h1,p1,h2,h3⟩:=h
 refine⟨u,p1,h1,?_,h3⟩
 by_cases c:u.kind≠k
 ·rw[if_pos c] at h2 ⊢;exact h2
 ·rw[if_neg c] at h2 ⊢;exact (Option.some.inj h2).symm
theorem VU (hT:TOK T) {p q:PS} (hp:p.pos<T.length) {k:Int} (hk:k≠0) {t:Tk} (h:Yg T k p=some (t,q)):Step T p q∧Strict p q:=by
 obtain⟨t',q',h1,h2,h3,_⟩:=VM hT hp hk
 rw[h1] at h;cases h;exact⟨h2,h3⟩
theorem XJ {p q:PS} (hp:p.pos<T.length) {n m:Int} (h:Qk T n m p=some q):Step T p q:=by
 unfold Qk at h
 split at h
 ·exact zg2 hp h
 ·cases h;exact .refl hp
end Go.AL
