/- Two runs of the parser, side by side: each reader. -/
import Derived.Test.YtkokccjfpebomaaGreatDoorP8
import Derived.Test.YtkokccjfpebomaaGreatDoorP4
import Derived.Test.YtkokccjfpebomaaGreatDoorM4
set_option linter.unusedSimpArgs false
set_option linter.unusedVariables false
namespace Go.AL
variable {ex:Bool} {d lo:Nat} {T1 T2 T:List Tk} {m k:Nat}
theorem XW (H:TR ex d lo T1 T2) {f:PM Nd} (ft:Tot T1 m f) {p1 p2 q1 q2:PS} {r1:Nd} (B1:Bd T1 m p1) (h1:f p1=some (r1,q1)) (R:Rel d lo p1 p2) (o:Ok ex q1 q2) {t1 t2:Tk} (l1:zR T1 p1=some t1) (l2:zR T2 p2=some t2):Sm t1 t2:=by
 rcases XZ H R B1.lt l1 l2 with h | ⟨hx,hend,h0,_⟩
 ·exact h
 ·obtain⟨s1,x1⟩:=ft.st B1 h1
  exact absurd (o.f hx).1 (Uu s1 x1 hend h0)
theorem gC {p:PS} (B:Bd T m p) (h:¬ 40≤p.deep):Bd T (m+1) { p with deep:=p.deep+1 }:=⟨B.lt,by show m+1≤p.deep+1;have:=B.lo;omega,by show p.deep+1≤40;omega⟩
theorem Vo (H:TR ex d lo T1 T2) {e1 e2:PM Nd} (he:Z5 ex d lo T1 T2 (m+1) (k+1) e1 e2):Z5 ex d lo T1 T2 m k (X9 T1 e1) (X9 T2 e2):=by
 intro p1 p2 r1 q1 r2 q2 B1 B2 h1 h2 R o
 unfold X9 at h1 h2
 have key:∀ {T:List Tk} {e:PM Nd} {p q:PS} {r:Nd},40≤p.deep→(if 40≤p.deep then Za T 15 p else some p).bind (fun p1=>if p1.e≠0 then some (J9,p1) else (e { p1 with deep:=p1.deep+1 }).bind fun r=>if r.2.deep=0∨1000<r.2.deep then none else some (r.1,{ r.2 with deep:=r.2.deep-1 }))=some (r,q) →
   Za T 15 p=some q∧r=J9:=by
  intro T e p q r hd h
  rw[if_pos hd] at h
  simp only[Option.bind_eq_some_iff] at h
  obtain⟨p',h3,h4⟩:=h
  rw[if_pos (Qa h3 (by decide))] at h4
  cases h4
  exact⟨h3,rfl⟩
 by_cases c1:40≤p1.deep
 ·obtain⟨f1,rfl⟩:=key c1 h1
  cases hx:ex with
  | true =>
   have hd:=H.dx hx
   have c2:40≤p2.deep:=by rw[R.deep];omega
   obtain⟨f2,rfl⟩:=key c2 h2
   exact⟨VL R f1 f2,rfl⟩
  | false=>exact absurd (o.f hx).1 (Qa f1 (by decide))
 ·by_cases c2:40≤p2.deep
  ·obtain⟨f2,rfl⟩:=key c2 h2
   cases hx:ex with
   | true=>have hd:=H.dx hx;rw[R.deep] at c2;omega
   | false=>exact absurd (o.f hx).2 (Qa f2 (by decide))
  ·rw[if_neg c1] at h1;rw[if_neg c2] at h2
   simp only[Option.bind_some] at h1 h2
   by_cases c:p1.e≠0
   ·rw[if_pos c] at h1;rw[if_pos (by rw[R.e];exact c)] at h2
    cases h1;cases h2
    exact⟨R,rfl⟩
   ·rw[if_neg c] at h1;rw[if_neg (by rw[R.e];exact c)] at h2
    simp only[Option.bind_eq_some_iff,Prod.exists] at h1 h2
    obtain⟨n1,s1,k1,k2⟩:=h1
    obtain⟨n2,s2,j1,j2⟩:=h2
    split at k2
    ·cases k2
    split at j2
    ·cases j2
    cases k2;cases j2
    rename_i g1 g2
    have:=he _ _ _ _ _ _ (gC B1 c1) (gC B2 c2) k1 j1 ⟨R.lo,R.pos,by show p2.deep+1=p1.deep+1+d;have:=R.deep;omega,R.flat,R.e⟩ o
    exact⟨⟨this.1.lo,this.1.pos,by show s2.deep-1=s1.deep-1+d;have:=this.1.deep;omega,this.1.flat,this.1.e⟩,this.2⟩
theorem yP (H:TR ex d lo T1 T2) {e1 e2:PM Nd} (A1:Tot T1 (m+1) e1) (A2:Tot T2 (k+1) e2) (he:Z5 ex d lo T1 T2 (m+1) (k+1) e1 e2):Z5 ex d lo T1 T2 m k (YW T1 e1) (YW T2 e2):=by
 intro p1 p2 r1 q1 r2 q2 B1 B2 h1 h2 R o
 unfold YW at h1 h2
 simp only[Option.bind_eq_some_iff,Option.map_eq_some_iff,Prod.exists,Prod.mk.injEq] at h1 h2
 obtain⟨a1,k1,n1,c1,k2,d1,k3,rfl,rfl⟩:=h1
 obtain⟨a2,j1,n2,c2,j2,d2,j3,rfl,rfl⟩:=h2
 have s1:=(qj H.k1 B1.lt k1).1
 have t1:=(qj H.k2 B2.lt j1).1
 have s2:=((qT H.k1 A1).st (B1.next s1) k2).1
 have t2:=((qT H.k2 A2).st (B2.next t1) j2).1
 have s3:=(qj H.k1 s2.lt k3).1
 have t3:=(qj H.k2 t2.lt j3).1
 have o2:=o.back s3 t3
 have R1:=QB H R B1.lt k1 j1 (o2.back s2 t2)
 have R2:=Vo H he _ _ _ _ _ _ (B1.next s1) (B2.next t1) k2 j2 R1 o2
 exact⟨QB H R2.1 s2.lt k3 j3 o,R2.2⟩
theorem wg (H:TR ex d lo T1 T2) {kinds:List (Int×Int)} (hk:∀ q∈kinds,q.1≠0):Z5 ex d lo T1 T2 m k (Xs T1 kinds) (Xs T2 kinds):=by
 intro p1 p2 r1 q1 r2 q2 B1 B2 h1 h2 R o
 have h1':=h1
 unfold Xs at h1 h2
 simp only[Option.bind_eq_some_iff] at h1 h2
 obtain⟨t1,k1,h1⟩:=h1
 obtain⟨t2,j1,h2⟩:=h2
 have hS:=XW H (Di H.k1 (m:=m) hk) B1 h1' R o k1 j1
 rw[←hS.1,←hS.2.1,←hS.2.2] at h2
 by_cases c:((kinds.find? fun q=>q.1==t1.kind).map (·.2)).getD 0=0
 ·rw[if_pos c] at h1 h2
  simp only[Option.map_eq_some_iff,Prod.mk.injEq] at h1 h2
  obtain⟨a1,k2,rfl,rfl⟩:=h1
  obtain⟨a2,j2,rfl,rfl⟩:=h2
  exact⟨VL R k2 j2,rfl⟩
 ·rw[if_neg c] at h1 h2
  simp only[Option.map_eq_some_iff,Prod.exists,Prod.mk.injEq] at h1 h2
  obtain⟨u1,a1,k2,rfl,rfl⟩:=h1
  obtain⟨u2,a2,j2,rfl,rfl⟩:=h2
  have v1:=(qB k2).1
  have v2:=(qB j2).1
  rw[k1] at v1;rw[j1] at v2
  cases v1;cases v2
  exact⟨Qe R k2 j2 hS,W8 rfl rfl rfl rfl rfl⟩
theorem Hs (hT:TOK T):∀ (n:Nat) (nd:Nd) (p:PS) (r:Nd) (q:PS),Bd T m p→Yx T n nd p=some (r,q)→Step T p q
 | 0,nd,p,r,q,B,h=>by cases h
 | n+1,nd,p,r,q,B,h=>by
  unfold Yx at h
  simp only[Option.bind_eq_some_iff] at h
  obtain⟨t,k1,h⟩:=h
  split at h
  ·simp only[Option.bind_eq_some_iff,Prod.exists] at h
   obtain⟨a1,k2,u,a2,k3,h⟩:=h
   have s1:=QE B.lt k2
   have s2:=(qQ hT s1.lt k3).1
   exact (s1.trans s2).trans (Hs hT n _ _ _ _ ((B.next s1).next s2) h)
  ·cases h;exact .refl B.lt
theorem L4 (hT:TOK T) {e:PM Nd} (A:Tot T (m+1) e):∀ (n:Nat) (more:Bool) (nd:Nd) (p:PS) (r:Nd) (q:PS),Bd T m p→Wv T e n more nd p=some (r,q)→Step T p q
 | 0,more,nd,p,r,q,B,h=>by cases h
 | n+1,more,nd,p,r,q,B,h=>by
  unfold Wv at h
  split at h
  ·simp only[Option.bind_eq_some_iff,Prod.exists] at h
   obtain⟨a1,k1,n1,a2,k2,b,a3,k3,h⟩:=h
   have s1:=QE B.lt k1
   have s2:=((La hT A).st (B.next s1) k2).1
   have s3:=XA hT s2.lt k3
   exact (s1.trans (s2.trans s3)).trans (L4 hT A n _ _ _ _ _ (((B.next s1).next s2).next s3) h)
  ·cases h;exact .refl B.lt
end Go.AL
namespace Go.AL
variable {ex:Bool} {d lo:Nat} {T1 T2 T:List Tk} {m k:Nat}
theorem G7 (H:TR ex d lo T1 T2) {e1 e2:PM Nd} (A1:Tot T1 (m+1) e1) (A2:Tot T2 (k+1) e2) (he:Z5 ex d lo T1 T2 (m+1) (k+1) e1 e2):Z5 ex d lo T1 T2 m k (Yf T1 e1) (Yf T2 e2):=by
 intro p1 p2 r1 q1 r2 q2 B1 B2 h1 h2 R o
 have h1':=h1
 unfold Yf at h1 h2
 simp only[Option.bind_eq_some_iff,Prod.exists] at h1 h2
 obtain⟨t1,k1,b1,a1,k2,h1⟩:=h1
 obtain⟨t2,j1,b2,x1,j2,h2⟩:=h2
 obtain⟨rfl,R1⟩:=Ft H R B1.lt (by decide) k2 j2
 cases b1 with
 | true =>
  simp only[if_true,Option.some.injEq,Prod.mk.injEq] at h1 h2
  obtain⟨rfl,rfl⟩:=h1
  obtain⟨rfl,rfl⟩:=h2
  exact⟨R1,Qu rfl⟩
 | false =>
  simp only[Bool.false_eq_true,if_false,Option.bind_eq_some_iff] at h1 h2
  have C1:=B1.next (XA H.k1 B1.lt k2)
  have C2:=B2.next (XA H.k2 B2.lt j2)
  obtain⟨b1,k3,h1⟩:=h1
  obtain⟨b2,j3,h2⟩:=h2
  have hb:=km H R1 C1.lt (by decide) k3 j3
  subst hb
  cases b1 with
  | true=>exact yP H A1 A2 he _ _ _ _ _ _ C1 C2 (by simpa using h1) (by simpa using h2) R1 o
  | false=>exact wg H (m:=m) (kinds:=[(1,1),(3,4),(4,5)]) (by decide) _ _ _ _ _ _ C1 C2 (by simpa using h1) (by simpa using h2) R1 o
theorem LB (H:TR ex d lo T1 T2) {p1 p2:PS} (R:Rel d lo p1 p2) (hp:p1.pos<T1.length) {b1 b2:Bool} (h1:JE T1 p1=some b1) (h2:JE T2 p2=some b2):b1=b2:=by
 unfold JE at h1 h2
 simp only[Option.map_eq_some_iff] at h1 h2
 obtain⟨t1,k1,rfl⟩:=h1
 obtain⟨t2,j1,rfl⟩:=h2
 have hR:=XZ H R hp k1 j1
 rcases hR with hS | ⟨_,_,_,a,b,c⟩
 ·rw[hS.isT,hS.isT,hS.1]
 ·unfold isT;rw[a,b,c];generalize t1.text=x;cases (x==[95]) <;> cases (x==[40]) <;> decide
theorem Kp (hT:TOK T) {e:PM Nd} (A:Tot T (m+1) e):∀ (n:Nat) (c:Bool) (nd:Nd) (p:PS) (r:Nd) (q:PS),Bd T m p→WY T e n c nd p=some (r,q)→Step T p q
 | 0,c,nd,p,r,q,B,h=>by cases h
 | n+1,c,nd,p,r,q,B,h=>by
  unfold WY at h
  split at h
  ·simp only[Option.bind_eq_some_iff] at h
   obtain⟨b,k0,h⟩:=h
   split at h
   ·simp only[Option.bind_eq_some_iff,Prod.exists] at h
    obtain⟨a1,k1,n1,a2,k2,h⟩:=h
    have s1:=QE B.lt k1
    have s2:=((XN hT A).st (B.next s1) k2).1
    exact (s1.trans s2).trans (Kp hT A n _ _ _ _ _ ((B.next s1).next s2) h)
   ·cases h;exact .refl B.lt
  ·cases h;exact .refl B.lt
theorem jK (H:TR ex d lo T1 T2) {e1 e2:PM Nd} (A1:Tot T1 (m+1) e1) (A2:Tot T2 (k+1) e2) (he:Z5 ex d lo T1 T2 (m+1) (k+1) e1 e2):∀ (n1 n2:Nat) (mo:Bool) (a b:Nd) (p1 p2:PS) (r1:Nd) (q1:PS) (r2:Nd) (q2:PS),Bd T1 m p1→Bd T2 k p2 →
  WY T1 e1 n1 mo a p1=some (r1,q1)→WY T2 e2 n2 mo b p2=some (r2,q2)→Rel d lo p1 p2→Ok ex q1 q2→qz a b=true→Rel d lo q1 q2∧qz r1 r2=true
 | 0,n2,mo,a,b,p1,p2,r1,q1,r2,q2,B1,B2,h1,h2,R,o,hs=>by cases h1
 | n1+1,0,mo,a,b,p1,p2,r1,q1,r2,q2,B1,B2,h1,h2,R,o,hs=>by cases h2
 | n1+1,n2+1,mo,a,b,p1,p2,r1,q1,r2,q2,B1,B2,h1,h2,R,o,hs=>by
  unfold WY at h1 h2
  cases mo with
  | false =>
   simp only[Bool.false_eq_true,if_false,Option.some.injEq,Prod.mk.injEq] at h1 h2
   obtain⟨rfl,rfl⟩:=h1
   obtain⟨rfl,rfl⟩:=h2
   exact⟨R,hs⟩
  | true =>
   simp only[if_true,Option.bind_eq_some_iff] at h1 h2
   obtain⟨b1,k0,h1⟩:=h1
   obtain⟨b2,j0,h2⟩:=h2
   have hb:=LB H R B1.lt k0 j0
   subst hb
   cases b1 with
   | false =>
    simp only[Bool.false_eq_true,if_false,Option.some.injEq,Prod.mk.injEq] at h1 h2
    obtain⟨rfl,rfl⟩:=h1
    obtain⟨rfl,rfl⟩:=h2
    exact⟨R,hs⟩
   | true =>
    simp only[if_true,Option.bind_eq_some_iff,Prod.exists] at h1 h2
    obtain⟨a1,k1,c1,a2,k2,h1⟩:=h1
    obtain⟨x1,j1,d1,x2,j2,h2⟩:=h2
    have s1:=QE B1.lt k1
    have s2:=((XN H.k1 A1).st (B1.next s1) k2).1
    have t1:=QE B2.lt j1
    have t2:=((XN H.k2 A2).st (B2.next t1) j2).1
    have o2:=o.back (Kp H.k1 A1 _ _ _ _ _ _ ((B1.next s1).next s2) h1) (Kp H.k2 A2 _ _ _ _ _ _ ((B2.next t1).next t2) h2)
    have R1:=Dc R (by rw[Y9 (Zs hs).2.2.2.2]) k1 j1
    have R2:=G7 H A1 A2 he _ _ _ _ _ _ (B1.next s1) (B2.next t1) k2 j2 R1 o2
    exact jK H A1 A2 he n1 n2 _ _ _ _ _ _ _ _ _ ((B1.next s1).next s2) ((B2.next t1).next t2) h1 h2 R2.1 o (Dk hs R2.2)
theorem nP (H:TR ex d lo T1 T2) {e1 e2:PM Nd} (A1:Tot T1 (m+1) e1) (A2:Tot T2 (k+1) e2) (he:Z5 ex d lo T1 T2 (m+1) (k+1) e1 e2):Z5 ex d lo T1 T2 m k (Do T1 e1) (Do T2 e2):=by
 intro p1 p2 r1 q1 r2 q2 B1 B2 h1 h2 R o
 have h1':=h1
 unfold Do at h1 h2
 simp only[Option.bind_eq_some_iff,Prod.exists] at h1 h2
 obtain⟨t1,k1,c1,a1,k2,h1⟩:=h1
 obtain⟨t2,j1,c2,x1,j2,h2⟩:=h2
 have hS:=XW H (vR H.k1 A1) B1 h1' R o k1 j1
 rw[←hS.1] at h2
 have s1:=((XN H.k1 A1).st B1 k2).1
 have u1:=((XN H.k2 A2).st B2 j2).1
 have o1:=o.back (Kp H.k1 A1 _ _ _ _ _ _ (B1.next s1) h1) (Kp H.k2 A2 _ _ _ _ _ _ (B2.next u1) h2)
 have R1:=G7 H A1 A2 he _ _ _ _ _ _ B1 B2 k2 j2 R o1
 exact jK H A1 A2 he _ _ _ _ _ _ _ _ _ _ _ (B1.next s1) (B2.next u1) h1 h2 R1.1 o R1.2
theorem Ln (H:TR ex d lo T1 T2):∀ (n1 n2 m k:Nat),43≤m+n1→43≤k+n2→Z5 ex d lo T1 T2 m k (Df T1 n1) (Df T2 n2)
 | 0,n2,m,k,h,h'=>fun p1 p2 r1 q1 r2 q2 B1 B2 h1=>by cases h1
 | n1+1,0,m,k,h,h'=>fun p1 p2 r1 q1 r2 q2 B1 B2 h1 h2=>by cases h2
 | n1+1,n2+1,m,k,h,h'=>nP H (YK H.k1 n1 (m+1) (by omega)) (YK H.k2 n2 (k+1) (by omega)) (Ln H n1 n2 (m+1) (k+1) (by omega) (by omega))
theorem EI {p:PS} (B:Bd T m p) (f:Bool):Bd T m { p with flat:=f }:=⟨B.lt,B.lo,B.hi⟩
theorem VS (H:TR ex d lo T1 T2) {e1 e2:PM Nd} (he:Z5 ex d lo T1 T2 (m+1) (k+1) e1 e2):Z5 ex d lo T1 T2 m k (Q7 T1 e1) (Q7 T2 e2):=by
 intro p1 p2 r1 q1 r2 q2 B1 B2 h1 h2 R o
 unfold Q7 at h1 h2
 simp only[Option.map_eq_some_iff,Prod.exists,Prod.mk.injEq] at h1 h2
 obtain⟨c1,a1,k1,rfl,rfl⟩:=h1
 obtain⟨c2,x1,j1,rfl,rfl⟩:=h2
 have:=Vo H he _ _ _ _ _ _ (EI B1 false) (EI B2 false) k1 j1 ⟨R.lo,R.pos,R.deep,rfl,R.e⟩ o
 exact⟨⟨this.1.lo,this.1.pos,this.1.deep,R.flat,this.1.e⟩,this.2⟩
structure Row (T:List Tk) (e pt:PM Nd) (nd:Nd) (p:PS) (c w:Nd) (q:PS):Prop where
 h:∃ p1 p2 p3 p4,Z8 T (Int.tdiv nd.kids.length 2) 20 p=some p1∧qJ T [124] p1=some p2∧X9 T pt p2=some (c,p3)∧qJ T [45,62] p3=some p4∧Q7 T e p4=some (w,q)
theorem wS (hT:TOK T) {e pt:PM Nd} (A:Tot T (m+1) e) (P:Tot T (m+1) pt) {nd c w:Nd} {p q:PS} (B:Bd T m p) (h:Row T e pt nd p c w q):Step T p q:=by
 obtain⟨p1,p2,p3,p4,k1,k2,k3,k4,k5⟩:=h.h
 have s1:=QE B.lt k1
 have s2:=(qj hT s1.lt k2).1
 have s3:=((qT hT P).st ((B.next s1).next s2) k3).1
 have s4:=(qj hT s3.lt k4).1
 have s5:=((qZ hT A).st ((((B.next s1).next s2).next s3).next s4) k5).1
 exact s1.trans (s2.trans (s3.trans (s4.trans s5)))
theorem nZ (H:TR ex d lo T1 T2) {e1 e2 pt1 pt2:PM Nd} (A1:Tot T1 (m+1) e1) (A2:Tot T2 (k+1) e2) (he:Z5 ex d lo T1 T2 (m+1) (k+1) e1 e2) (P1:Tot T1 (m+1) pt1) (P2:Tot T2 (k+1) pt2) (hp:Z5 ex d lo T1 T2 (m+1) (k+1) pt1 pt2)
  {a b c1 w1 c2 w2:Nd} {p1 p2 q1 q2:PS} (B1:Bd T1 m p1) (B2:Bd T2 k p2) (h1:Row T1 e1 pt1 a p1 c1 w1 q1) (h2:Row T2 e2 pt2 b p2 c2 w2 q2) (R:Rel d lo p1 p2) (o:Ok ex q1 q2) (hs:qz a b=true):Rel d lo q1 q2∧qz (a.addKids [c1,w1]) (b.addKids [c2,w2])=true:=by
 obtain⟨a1,a2,a3,a4,k1,k2,k3,k4,k5⟩:=h1.h
 obtain⟨x1,x2,x3,x4,j1,j2,j3,j4,j5⟩:=h2.h
 have s1:=QE B1.lt k1
 have s2:=(qj H.k1 s1.lt k2).1
 have C1:=(B1.next s1).next s2
 have s3:=((qT H.k1 P1).st C1 k3).1
 have s4:=(qj H.k1 s3.lt k4).1
 have D1:=(C1.next s3).next s4
 have s5:=((qZ H.k1 A1).st D1 k5).1
 have u1:=QE B2.lt j1
 have u2:=(qj H.k2 u1.lt j2).1
 have C2:=(B2.next u1).next u2
 have u3:=((qT H.k2 P2).st C2 j3).1
 have u4:=(qj H.k2 u3.lt j4).1
 have D2:=(C2.next u3).next u4
 have u5:=((qZ H.k2 A2).st D2 j5).1
 have o4:=o.back s5 u5
 have o3:=o4.back s4 u4
 have o2:=o3.back s3 u3
 have R1:=Dc R (by rw[Y9 (Zs hs).2.2.2.2]) k1 j1
 have R2:=QB H R1 s1.lt k2 j2 o2
 have R3:=Vo H hp _ _ _ _ _ _ C1 C2 k3 j3 R2 o3
 have R4:=QB H R3.1 s3.lt k4 j4 o4
 have R5:=VS H he _ _ _ _ _ _ D1 D2 k5 j5 R4 o
 exact⟨R5.1,Bl hs (V7 R3.2 R5.2)⟩
theorem Wc {e pt:PM Nd} {n:Nat} {nd:Nd} {p q:PS} {r:Nd} {f:Bool} (h:XF T e pt (n+1) f nd p=some (r,q)):∃ b,(if f=true then some true else Jn T [124] p)=some b∧((b=false∧r=nd∧q=p)∨(b=true∧∃ c w p5,Row T e pt nd p c w p5∧XF T e pt n false (nd.addKids [c,w]) p5=some (r,q))):=by
 unfold XF at h
 simp only[Option.bind_eq_some_iff] at h
 obtain⟨b,k0,h⟩:=h
 refine⟨b,k0,?_⟩
 cases b with
 | false=>simp only[Bool.false_eq_true,if_false,Option.some.injEq,Prod.mk.injEq] at h;exact .inl ⟨rfl,h.1.symm,h.2.symm⟩
 | true =>
  simp only[if_true,Option.bind_eq_some_iff,Prod.exists] at h
  obtain⟨p1,k1,p2,k2,c,p3,k3,p4,k4,w,p5,k5,h⟩:=h
  exact .inr ⟨rfl,c,w,p5,⟨p1,p2,p3,p4,k1,k2,k3,k4,k5⟩,h⟩
theorem JK (hT:TOK T) {e pt:PM Nd} (A:Tot T (m+1) e) (P:Tot T (m+1) pt):∀ (n:Nat) (f:Bool) (nd:Nd) (p:PS) (r:Nd) (q:PS),Bd T m p→XF T e pt n f nd p=some (r,q)→Step T p q
 | 0,f,nd,p,r,q,B,h=>by cases h
 | n+1,f,nd,p,r,q,B,h=>by
  obtain⟨b,_,h⟩:=Wc h
  rcases h with⟨_,_,rfl⟩ | ⟨_,c,w,p5,hr,h⟩
  ·exact .refl B.lt
  ·have s:=wS hT A P B hr
   exact s.trans (JK hT A P n _ _ _ _ _ (B.next s) h)
theorem Dy (H:TR ex d lo T1 T2) {e1 e2 pt1 pt2:PM Nd} (A1:Tot T1 (m+1) e1) (A2:Tot T2 (k+1) e2) (he:Z5 ex d lo T1 T2 (m+1) (k+1) e1 e2) (P1:Tot T1 (m+1) pt1) (P2:Tot T2 (k+1) pt2) (hp:Z5 ex d lo T1 T2 (m+1) (k+1) pt1 pt2) :
  ∀ (n1 n2:Nat) (f:Bool) (a b:Nd) (p1 p2:PS) (r1:Nd) (q1:PS) (r2:Nd) (q2:PS),Bd T1 m p1→Bd T2 k p2→XF T1 e1 pt1 n1 f a p1=some (r1,q1)→XF T2 e2 pt2 n2 f b p2=some (r2,q2)→Rel d lo p1 p2→Ok ex q1 q2→qz a b=true→Rel d lo q1 q2∧qz r1 r2=true
 | 0,n2,f,a,b,p1,p2,r1,q1,r2,q2,B1,B2,h1,h2,R,o,hs=>by cases h1
 | n1+1,0,f,a,b,p1,p2,r1,q1,r2,q2,B1,B2,h1,h2,R,o,hs=>by cases h2
 | n1+1,n2+1,f,a,b,p1,p2,r1,q1,r2,q2,B1,B2,h1,h2,R,o,hs=>by
  obtain⟨b1,k0,h1⟩:=Wc h1
  obtain⟨b2,j0,h2⟩:=Wc h2
  have hb:b1=b2:=by
   cases f with
   | true=>simp only[if_true,Option.some.injEq] at k0 j0;rw[←k0,←j0]
   | false=>exact km H R B1.lt (s:=[124]) (by decide) (by simpa using k0) (by simpa using j0)
  subst hb
  rcases h1 with⟨c,rfl,rfl⟩ | ⟨c,c1,w1,y1,hr1,h1⟩
  ·rcases h2 with⟨_,rfl,rfl⟩ | ⟨c',_⟩
   ·exact⟨R,hs⟩
   ·rw[c] at c';cases c'
  ·rcases h2 with⟨c',_⟩ | ⟨_,c2,w2,y2,hr2,h2⟩
   ·rw[c] at c';cases c'
   ·have s:=wS H.k1 A1 P1 B1 hr1
    have u:=wS H.k2 A2 P2 B2 hr2
    have o1:=o.back (JK H.k1 A1 P1 _ _ _ _ _ _ (B1.next s) h1) (JK H.k2 A2 P2 _ _ _ _ _ _ (B2.next u) h2)
    have R1:=nZ H A1 A2 he P1 P2 hp B1 B2 hr1 hr2 R o1 hs
    exact Dy H A1 A2 he P1 P2 hp n1 n2 _ _ _ _ _ _ _ _ _ (B1.next s) (B2.next u) h1 h2 R1.1 o R1.2
theorem yC (H:TR ex d lo T1 T2) {e1 e2 pt1 pt2:PM Nd} (A1:Tot T1 (m+1) e1) (A2:Tot T2 (k+1) e2) (he:Z5 ex d lo T1 T2 (m+1) (k+1) e1 e2) (P1:Tot T1 (m+1) pt1) (P2:Tot T2 (k+1) pt2) (hp:Z5 ex d lo T1 T2 (m+1) (k+1) pt1 pt2):Z5 ex d lo T1 T2 m k (Jr T1 e1 pt1) (Jr T2 e2 pt2):=by
 intro p1 p2 r1 q1 r2 q2 B1 B2 h1 h2 R o
 have h1':=h1
 unfold Jr at h1 h2
 simp only[Option.bind_eq_some_iff,Option.map_eq_some_iff,Prod.exists,Prod.mk.injEq] at h1 h2
 obtain⟨t1,a1,k1,w1,a2,k2,a3,k3,n1,a4,k4,a5,k5,rfl,rfl⟩:=h1
 obtain⟨t2,x1,j1,w2,x2,j2,x3,j3,n2,x4,j4,x5,j5,rfl,rfl⟩:=h2
 have hS:=XW H (BI H.k1 A1 P1) B1 h1' R o (qB k1).1 (qB j1).1
 have s1:=(qQ H.k1 B1.lt k1).1
 have s2:=((qZ H.k1 A1).st (B1.next s1) k2).1
 have s3:=(qj H.k1 s2.lt k3).1
 have C1:=((B1.next s1).next s2).next s3
 have s4:=JK H.k1 A1 P1 _ _ _ _ _ _ C1 k4
 have s5:=(qj H.k1 s4.lt k5).1
 have u1:=(qQ H.k2 B2.lt j1).1
 have u2:=((qZ H.k2 A2).st (B2.next u1) j2).1
 have u3:=(qj H.k2 u2.lt j3).1
 have C2:=((B2.next u1).next u2).next u3
 have u4:=JK H.k2 A2 P2 _ _ _ _ _ _ C2 j4
 have u5:=(qj H.k2 u4.lt j5).1
 have o4:=o.back s5 u5
 have o3:=o4.back s4 u4
 have o2:=o3.back s3 u3
 have R1:=Qe R k1 j1 hS
 have R2:=VS H he _ _ _ _ _ _ (B1.next s1) (B2.next u1) k2 j2 R1 o2
 have R3:=QB H R2.1 s2.lt k3 j3 o3
 have R4:=Dy H A1 A2 he P1 P2 hp _ _ _ _ _ _ _ _ _ _ _ C1 C2 k4 j4 R3 o4 (Qu (EH R2.2))
 exact⟨QB H R4.1 s4.lt k5 j5 o,R4.2⟩
theorem dm (H:TR ex d lo T1 T2) {e1 e2:PM Nd} (A1:Tot T1 (m+1) e1) (A2:Tot T2 (k+1) e2) (he:Z5 ex d lo T1 T2 (m+1) (k+1) e1 e2):Z5 ex d lo T1 T2 m k (EA T1 e1) (EA T2 e2):=by
 intro p1 p2 r1 q1 r2 q2 B1 B2 h1 h2 R o
 have h1':=h1
 unfold EA at h1 h2
 simp only[Option.bind_eq_some_iff,Option.map_eq_some_iff,Prod.exists,Prod.mk.injEq] at h1 h2
 obtain⟨t1,a1,k1,w1,a2,k2,a3,k3,v1,a4,k4,a5,k5,z1,a6,k6,a7,k7,rfl,rfl⟩:=h1
 obtain⟨t2,x1,j1,w2,x2,j2,x3,j3,v2,x4,j4,x5,j5,z2,x6,j6,x7,j7,rfl,rfl⟩:=h2
 have hS:=XW H (vI H.k1 A1) B1 h1' R o (qB k1).1 (qB j1).1
 have s1:=(qQ H.k1 B1.lt k1).1
 have s2:=((qZ H.k1 A1).st (B1.next s1) k2).1
 have s3:=(qj H.k1 s2.lt k3).1
 have s4:=(Xq H.k1 s3.lt (by decide) k4).1
 have s5:=(qj H.k1 s4.lt k5).1
 have C1:=((((B1.next s1).next s2).next s3).next s4).next s5
 have s6:=((qZ H.k1 A1).st C1 k6).1
 have s7:=(qj H.k1 s6.lt k7).1
 have u1:=(qQ H.k2 B2.lt j1).1
 have u2:=((qZ H.k2 A2).st (B2.next u1) j2).1
 have u3:=(qj H.k2 u2.lt j3).1
 have u4:=(Xq H.k2 u3.lt (by decide) j4).1
 have u5:=(qj H.k2 u4.lt j5).1
 have C2:=((((B2.next u1).next u2).next u3).next u4).next u5
 have u6:=((qZ H.k2 A2).st C2 j6).1
 have u7:=(qj H.k2 u6.lt j7).1
 have o6:=o.back s7 u7
 have o5:=o6.back s6 u6
 have o4:=o5.back s5 u5
 have o3:=o4.back s4 u4
 have o2:=o3.back s3 u3
 have R1:=Qe R k1 j1 hS
 have R2:=VS H he _ _ _ _ _ _ (B1.next s1) (B2.next u1) k2 j2 R1 o2
 have R3:=QB H R2.1 s2.lt k3 j3 o3
 have R4:=Gp H R3 s3.lt (by decide) k4 j4 o4
 have R5:=QB H R4.1 s4.lt k5 j5 o5
 have R6:=VS H he _ _ _ _ _ _ C1 C2 k6 j6 R5 o6
 have R7:=QB H R6.1 s6.lt k7 j7 o
 rw[R4.2.2.1]
 exact⟨R7,Qu (V7 R2.2 R6.2)⟩
theorem oL {t:Tk} {s:Tx} (h:isT t s=true):t.kind≠0∧t.text=s:=by
 unfold isT at h
 simp only[Bool.and_eq_true,Bool.or_eq_true,beq_iff_eq] at h
 exact⟨by omega,h.2⟩
theorem UE (H:TR ex d lo T1 T2) {e1 e2 pt1 pt2:PM Nd} (A1:Tot T1 (m+1) e1) (A2:Tot T2 (k+1) e2) (he:Z5 ex d lo T1 T2 (m+1) (k+1) e1 e2) (P1:Tot T1 (m+1) pt1) (P2:Tot T2 (k+1) pt2) (hp:Z5 ex d lo T1 T2 (m+1) (k+1) pt1 pt2):Z5 ex d lo T1 T2 m k (Xz T1 e1 pt1) (Xz T2 e2 pt2):=by
 intro p1 p2 r1 q1 r2 q2 B1 B2 h1 h2 R o
 have h1':=h1
 unfold Xz at h1 h2
 simp only[Option.bind_eq_some_iff] at h1 h2
 obtain⟨t1,k1,h1⟩:=h1
 obtain⟨t2,j1,h2⟩:=h2
 have hS:=XW H (Zo H.k1 A1 P1) B1 h1' R o k1 j1
 rw[←hS.isT,←hS.isT,←hS.isT,←hS.isT] at h2
 split at h1
 ·rename_i c;rw[if_pos c] at h2
  exact yC H A1 A2 he P1 P2 hp _ _ _ _ _ _ B1 B2 h1 h2 R o
 rename_i c;rw[if_neg c] at h2
 split at h1
 ·rename_i c;rw[if_pos c] at h2
  exact dm H A1 A2 he _ _ _ _ _ _ B1 B2 h1 h2 R o
 rename_i c;rw[if_neg c] at h2
 split at h1
 ·rename_i c;rw[if_pos c] at h2
  simp only[Option.map_eq_some_iff,Prod.exists,Prod.mk.injEq] at h1 h2
  obtain⟨v1,a1,k2,rfl,rfl⟩:=h1
  obtain⟨v2,x1,j2,rfl,rfl⟩:=h2
  have y1:=(qB k2).1
  have y2:=(qB j2).1
  rw[k1] at y1;rw[j1] at y2
  cases y1;cases y2
  exact⟨Qe R k2 j2 hS,Qu rfl⟩
 rename_i c;rw[if_neg c] at h2
 split at h1
 ·rename_i c;rw[if_pos c] at h2
  simp only[Option.bind_eq_some_iff,Prod.exists] at h1 h2
  obtain⟨v1,a1,k2,b1,a2,k3,h1⟩:=h1
  obtain⟨v2,x1,j2,b2,x2,j3,h2⟩:=h2
  have y1:=(qB k2).1
  have y2:=(qB j2).1
  rw[k1] at y1;rw[j1] at y2
  cases y1;cases y2
  have R1:=Qe R k2 j2 hS
  have s1:=(qQ H.k1 B1.lt k2).1
  have u1:=(qQ H.k2 B2.lt j2).1
  have s2:=XA H.k1 s1.lt k3
  have u2:=XA H.k2 u1.lt j3
  obtain⟨w1,g1,f1,i1⟩:=Yz k3
  obtain⟨w2,g2,f2,i2⟩:=Yz j3
  rcases XZ H R1 s1.lt g1 g2 with hS2 | ⟨hx,hend,h0,hk,hk2,ht2⟩
  ·have hb:b1=b2:=by rw[f1,f2];exact hS2.isT _
   subst hb
   cases b1 with
   | true =>
    simp only[if_true,Option.some.injEq,Prod.mk.injEq] at h1 h2 i1 i2
    obtain⟨rfl,rfl⟩:=h1
    obtain⟨rfl,rfl⟩:=h2
    exact⟨Qe R1 i1 i2 hS2,Qu rfl⟩
   | false =>
    simp only[Bool.false_eq_true,if_false] at i1 i2
    subst i1;subst i2
    simp only[Bool.false_eq_true,if_false,Option.bind_eq_some_iff,Option.map_eq_some_iff,Prod.exists,Prod.mk.injEq] at h1 h2
    obtain⟨n1,a3,k4,a4,k5,rfl,rfl⟩:=h1
    obtain⟨n2,x3,j4,x4,j5,rfl,rfl⟩:=h2
    have C1:=B1.next s1
    have C2:=B2.next u1
    have s3:=((qZ H.k1 A1).st C1 k4).1
    have u3:=((qZ H.k2 A2).st C2 j4).1
    have s4:=(qj H.k1 s3.lt k5).1
    have u4:=(qj H.k2 u3.lt j5).1
    have R2:=VS H he _ _ _ _ _ _ C1 C2 k4 j4 R1 (o.back s4 u4)
    exact⟨QB H R2.1 s3.lt k5 j5 o,R2.2⟩
  ·exfalso
   have hb:b1=false:=by
    rw[f1]
    unfold isT;rw[hk];simp
   subst hb
   simp only[Bool.false_eq_true,if_false] at i1
   subst i1
   simp only[Bool.false_eq_true,if_false,Option.bind_eq_some_iff,Option.map_eq_some_iff,Prod.exists,Prod.mk.injEq] at h1
   obtain⟨n1,a3,k4,a4,k5,_,rfl⟩:=h1
   obtain⟨s3,x3⟩:=(qZ H.k1 A1).st (B1.next s1) k4
   have s4:=(qj H.k1 s3.lt k5).1
   exact Uu s3 x3 hend h0 (s4.e0 (o.f hx).1)
 ·rename_i c;rw[if_neg c] at h2
  exact wg H (m:=m) (by decide) _ _ _ _ _ _ B1 B2 h1 h2 R o
end Go.AL
namespace Go.AL
variable {ex:Bool} {d lo:Nat} {T1 T2 T:List Tk} {m k:Nat}
theorem Hq (hT:TOK T) {e pt:PM Nd} (A:Tot T (m+1) e) (P:Tot T (m+1) pt):∀ (n:Nat) (nd:Nd) (p:PS) (r:Nd) (q:PS),Bd T m p→XS T e pt n nd p=some (r,q)→Step T p q
 | 0,nd,p,r,q,B,h=>by cases h;exact .refl B.lt
 | n+1,nd,p,r,q,B,h=>by
  unfold XS at h
  simp only[Option.bind_eq_some_iff,Prod.exists] at h
  obtain⟨c,a,k,h⟩:=h
  have s:=((Zo hT A P).st B k).1
  exact s.trans (Hq hT A P n _ _ _ _ (B.next s) h)
theorem D9 (H:TR ex d lo T1 T2) {e1 e2 pt1 pt2:PM Nd} (A1:Tot T1 (m+1) e1) (A2:Tot T2 (k+1) e2) (he:Z5 ex d lo T1 T2 (m+1) (k+1) e1 e2) (P1:Tot T1 (m+1) pt1) (P2:Tot T2 (k+1) pt2) (hp:Z5 ex d lo T1 T2 (m+1) (k+1) pt1 pt2) :
  ∀ (n:Nat) (a b:Nd) (p1 p2:PS) (r1:Nd) (q1:PS) (r2:Nd) (q2:PS),Bd T1 m p1→Bd T2 k p2→XS T1 e1 pt1 n a p1=some (r1,q1)→XS T2 e2 pt2 n b p2=some (r2,q2)→Rel d lo p1 p2→Ok ex q1 q2→qz a b=true→Rel d lo q1 q2∧qz r1 r2=true
 | 0,a,b,p1,p2,r1,q1,r2,q2,B1,B2,h1,h2,R,o,hs=>by cases h1;cases h2;exact⟨R,hs⟩
 | n+1,a,b,p1,p2,r1,q1,r2,q2,B1,B2,h1,h2,R,o,hs=>by
  unfold XS at h1 h2
  simp only[Option.bind_eq_some_iff,Prod.exists] at h1 h2
  obtain⟨c1,a1,k1,h1⟩:=h1
  obtain⟨c2,x1,j1,h2⟩:=h2
  have s:=((Zo H.k1 A1 P1).st B1 k1).1
  have u:=((Zo H.k2 A2 P2).st B2 j1).1
  have o1:=o.back (Hq H.k1 A1 P1 _ _ _ _ _ (B1.next s) h1) (Hq H.k2 A2 P2 _ _ _ _ _ (B2.next u) h2)
  have R1:=UE H A1 A2 he P1 P2 hp _ _ _ _ _ _ B1 B2 k1 j1 R o1
  exact D9 H A1 A2 he P1 P2 hp n _ _ _ _ _ _ _ _ (B1.next s) (B2.next u) h1 h2 R1.1 o (Dk hs R1.2)
theorem wQ {p1:PS} {t1 t2:Tk} (h:TkR ex T1 p1 t1 t2):ZD t1=ZD t2:=by
 rcases h with hS | ⟨_,_,_,a,b,c⟩
 ·unfold ZD;rw[hS.isT,hS.isT,hS.isT,hS.isT,hS.1]
 ·have h1:ZD t1=false:=by
   cases hb:ZD t1 with
   | false=>rfl
   | true=>exact absurd a (H2 hb)
  have h2:ZD t2=false:=by unfold ZD isT;rw[b,c];decide
  rw[h1,h2]
theorem Ja (hT:TOK T) {e pt:PM Nd} (A:Tot T (m+1) e) (P:Tot T (m+1) pt):∀ (n:Nat) (bare:Bool) (nd:Nd) (p:PS) (r:Nd) (q:PS),Bd T m p→JY T e pt n bare nd p=some (r,q)→Step T p q
 | 0,bare,nd,p,r,q,B,h=>by cases h
 | n+1,bare,nd,p,r,q,B,h=>by
  unfold JY at h
  simp only[Option.bind_eq_some_iff] at h
  obtain⟨t,k0,h⟩:=h
  split at h
  ·cases bare with
   | true =>
    simp only[if_true,Option.bind_eq_some_iff,Prod.exists] at h
    obtain⟨a1,k1,c,a2,k2,h⟩:=h
    have s1:=QE B.lt k1
    have s2:=((Zo hT A P).st (B.next s1) k2).1
    exact (s1.trans s2).trans (Ja hT A P n _ _ _ _ _ ((B.next s1).next s2) h)
   | false =>
    simp only[Bool.false_eq_true,if_false,Option.bind_eq_some_iff,Prod.exists] at h
    obtain⟨c,a2,k2,h⟩:=h
    have s2:=((Zo hT A P).st B k2).1
    exact s2.trans (Ja hT A P n _ _ _ _ _ (B.next s2) h)
  ·cases h;exact .refl B.lt
theorem GB (H:TR ex d lo T1 T2) {e1 e2 pt1 pt2:PM Nd} (A1:Tot T1 (m+1) e1) (A2:Tot T2 (k+1) e2) (he:Z5 ex d lo T1 T2 (m+1) (k+1) e1 e2) (P1:Tot T1 (m+1) pt1) (P2:Tot T2 (k+1) pt2) (hp:Z5 ex d lo T1 T2 (m+1) (k+1) pt1 pt2) :
  ∀ (n1 n2:Nat) (bare:Bool) (a b:Nd) (p1 p2:PS) (r1:Nd) (q1:PS) (r2:Nd) (q2:PS),Bd T1 m p1→Bd T2 k p2→JY T1 e1 pt1 n1 bare a p1=some (r1,q1)→JY T2 e2 pt2 n2 bare b p2=some (r2,q2)→Rel d lo p1 p2→Ok ex q1 q2→qz a b=true→Rel d lo q1 q2∧qz r1 r2=true
 | 0,n2,bare,a,b,p1,p2,r1,q1,r2,q2,B1,B2,h1,h2,R,o,hs=>by cases h1
 | n1+1,0,bare,a,b,p1,p2,r1,q1,r2,q2,B1,B2,h1,h2,R,o,hs=>by cases h2
 | n1+1,n2+1,bare,a,b,p1,p2,r1,q1,r2,q2,B1,B2,h1,h2,R,o,hs=>by
  unfold JY at h1 h2
  simp only[Option.bind_eq_some_iff] at h1 h2
  obtain⟨t1,k0,h1⟩:=h1
  obtain⟨t2,j0,h2⟩:=h2
  rw[←wQ (XZ H R B1.lt k0 j0)] at h2
  split at h1
  ·rename_i c;rw[if_pos c] at h2
   cases bare with
   | true =>
    simp only[if_true,Option.bind_eq_some_iff,Prod.exists] at h1 h2
    obtain⟨a1,k1,c1,a2,k2,h1⟩:=h1
    obtain⟨x1,j1,c2,x2,j2,h2⟩:=h2
    have s1:=QE B1.lt k1
    have s2:=((Zo H.k1 A1 P1).st (B1.next s1) k2).1
    have u1:=QE B2.lt j1
    have u2:=((Zo H.k2 A2 P2).st (B2.next u1) j2).1
    have o2:=o.back (Ja H.k1 A1 P1 _ _ _ _ _ _ ((B1.next s1).next s2) h1) (Ja H.k2 A2 P2 _ _ _ _ _ _ ((B2.next u1).next u2) h2)
    have R1:=Dc R (by rw[Y9 (Zs hs).2.2.2.2]) k1 j1
    have R2:=UE H A1 A2 he P1 P2 hp _ _ _ _ _ _ (B1.next s1) (B2.next u1) k2 j2 R1 o2
    exact GB H A1 A2 he P1 P2 hp n1 n2 _ _ _ _ _ _ _ _ _ ((B1.next s1).next s2) ((B2.next u1).next u2) h1 h2 R2.1 o (Dk hs R2.2)
   | false =>
    simp only[Bool.false_eq_true,if_false,Option.bind_eq_some_iff,Prod.exists] at h1 h2
    obtain⟨c1,a2,k2,h1⟩:=h1
    obtain⟨c2,x2,j2,h2⟩:=h2
    have s2:=((Zo H.k1 A1 P1).st B1 k2).1
    have u2:=((Zo H.k2 A2 P2).st B2 j2).1
    have o2:=o.back (Ja H.k1 A1 P1 _ _ _ _ _ _ (B1.next s2) h1) (Ja H.k2 A2 P2 _ _ _ _ _ _ (B2.next u2) h2)
    have R2:=UE H A1 A2 he P1 P2 hp _ _ _ _ _ _ B1 B2 k2 j2 R o2
    exact GB H A1 A2 he P1 P2 hp n1 n2 _ _ _ _ _ _ _ _ _ (B1.next s2) (B2.next u2) h1 h2 R2.1 o (Qu (V7 hs R2.2))
  ·rename_i c;rw[if_neg c] at h2
   cases h1;cases h2;exact⟨R,hs⟩
theorem nB (H:TR ex d lo T1 T2) {e1 e2 pt1 pt2:PM Nd} (A1:Tot T1 (m+1) e1) (A2:Tot T2 (k+1) e2) (he:Z5 ex d lo T1 T2 (m+1) (k+1) e1 e2) (P1:Tot T1 (m+1) pt1) (P2:Tot T2 (k+1) pt2) (hp:Z5 ex d lo T1 T2 (m+1) (k+1) pt1 pt2):Z5 ex d lo T1 T2 m k (Hl T1 e1 pt1) (Hl T2 e2 pt2):=by
 intro p1 p2 r1 q1 r2 q2 B1 B2 h1 h2 R o
 have h1':=h1
 unfold Hl at h1 h2
 simp only[Option.bind_eq_some_iff] at h1 h2
 obtain⟨t1,k0,h1⟩:=h1
 obtain⟨t2,j0,h2⟩:=h2
 have hS:=XW H (Y' H.k1 A1 P1) B1 h1' R o k0 j0
 rw[←hS.1,←hS.2.1] at h2
 split at h1
 ·rename_i c;rw[if_pos c] at h2
  simp only[Option.bind_eq_some_iff,Prod.exists] at h1 h2
  obtain⟨v1,a1,k1,h1⟩:=h1
  obtain⟨v2,x1,j1,h2⟩:=h2
  have y1:=(qB k1).1
  have y2:=(qB j1).1
  rw[k0] at y1;rw[j0] at y2
  cases y1;cases y2
  have s1:=(qQ H.k1 B1.lt k1).1
  have u1:=(qQ H.k2 B2.lt j1).1
  exact D9 H A1 A2 he P1 P2 hp _ _ _ _ _ _ _ _ _ (B1.next s1) (B2.next u1) h1 h2 (Qe R k1 j1 hS) o (Qu rfl)
 ·rename_i c;rw[if_neg c] at h2
  simp only[Option.bind_eq_some_iff,Prod.exists] at h1 h2
  obtain⟨c1,a1,k1,h1⟩:=h1
  obtain⟨c2,x1,j1,h2⟩:=h2
  have s1:=((Zo H.k1 A1 P1).st B1 k1).1
  have u1:=((Zo H.k2 A2 P2).st B2 j1).1
  have o1:=o.back (Ja H.k1 A1 P1 _ _ _ _ _ _ (B1.next s1) h1) (Ja H.k2 A2 P2 _ _ _ _ _ _ (B2.next u1) h2)
  have R1:=UE H A1 A2 he P1 P2 hp _ _ _ _ _ _ B1 B2 k1 j1 R o1
  exact GB H A1 A2 he P1 P2 hp _ _ _ _ _ _ _ _ _ _ _ (B1.next s1) (B2.next u1) h1 h2 R1.1 o R1.2
theorem J1 (hT:TOK T) {part:PM Nd} {signs:List Tx} (A:Tot T m part):∀ (n:Nat) (t:Tk) (nd:Nd) (p:PS) (r:Nd) (q:PS),Bd T m p→Ji T part signs n t nd p=some (r,q)→Step T p q
 | 0,t,nd,p,r,q,B,h=>by cases h
 | n+1,t,nd,p,r,q,B,h=>by
  unfold Ji at h
  split at h
  ·simp only[Option.bind_eq_some_iff,Prod.exists] at h
   obtain⟨u,a1,k1,c,a2,k2,t',k3,h⟩:=h
   have s1:=(qQ hT B.lt k1).1
   have s2:=(A.st (B.next s1) k2).1
   exact (s1.trans s2).trans (J1 hT A n _ _ _ _ _ ((B.next s1).next s2) h)
  ·cases h;exact .refl B.lt
theorem Fd (H:TR ex d lo T1 T2) {f1 f2:PM Nd} {signs:List Tx} (h41:([41]:Tx) ∉ signs) (A1:Tot T1 m f1) (A2:Tot T2 k f2) (he:Z5 ex d lo T1 T2 m k f1 f2) :
  ∀ (n1 n2:Nat) (t1 t2:Tk) (a b:Nd) (p1 p2:PS) (r1:Nd) (q1:PS) (r2:Nd) (q2:PS),zR T1 p1=some t1→zR T2 p2=some t2→Bd T1 m p1→Bd T2 k p2→Ji T1 f1 signs n1 t1 a p1=some (r1,q1)→Ji T2 f2 signs n2 t2 b p2=some (r2,q2)→Rel d lo p1 p2→Ok ex q1 q2→qz a b=true→Rel d lo q1 q2∧qz r1 r2=true
 | 0,n2,t1,t2,a,b,p1,p2,r1,q1,r2,q2,l1,l2,B1,B2,h1,h2,R,o,hs=>by cases h1
 | n1+1,0,t1,t2,a,b,p1,p2,r1,q1,r2,q2,l1,l2,B1,B2,h1,h2,R,o,hs=>by cases h2
 | n1+1,n2+1,t1,t2,a,b,p1,p2,r1,q1,r2,q2,l1,l2,B1,B2,h1,h2,R,o,hs=>by
  unfold Ji at h1 h2
  have hR:=XZ H R B1.lt l1 l2
  split at h1
  ·rename_i c
   have hS:=hR.sm (by omega)
   rw[if_pos (by rw[←hS.1,←hS.2.1];exact c)] at h2
   simp only[Option.bind_eq_some_iff,Prod.exists] at h1 h2
   obtain⟨v1,a1,k1,c1,a2,k2,g1,k3,h1⟩:=h1
   obtain⟨v2,x1,j1,c2,x2,j2,g2,j3,h2⟩:=h2
   have y1:=(qB k1).1
   have y2:=(qB j1).1
   rw[l1] at y1;rw[l2] at y2
   cases y1;cases y2
   have s1:=(qQ H.k1 B1.lt k1).1
   have u1:=(qQ H.k2 B2.lt j1).1
   have s2:=(A1.st (B1.next s1) k2).1
   have u2:=(A2.st (B2.next u1) j2).1
   have o2:=o.back (J1 H.k1 A1 _ _ _ _ _ _ ((B1.next s1).next s2) h1) (J1 H.k2 A2 _ _ _ _ _ _ ((B2.next u1).next u2) h2)
   have R2:=he _ _ _ _ _ _ (B1.next s1) (B2.next u1) k2 j2 (Qe R k1 j1 hS) o2
   exact Fd H h41 A1 A2 he n1 n2 _ _ _ _ _ _ _ _ _ _ k3 j3 ((B1.next s1).next s2) ((B2.next u1).next u2) h1 h2 R2.1 o (by rw[←hS.2.1];exact Qu (V7 hs R2.2))
  ·rename_i c
   have c2:¬ (t2.kind=5∧t2.text∈signs):=by
    rcases hR with hS | ⟨_,_,_,x,y,z⟩
    ·rw[←hS.1,←hS.2.1];exact c
    ·rw[z];exact fun h=>h41 h.2
   rw[if_neg c2] at h2
   cases h1;cases h2;exact⟨R,hs⟩
theorem ww (H:TR ex d lo T1 T2) {f1 f2:PM Nd} {signs:List Tx} (h41:([41]:Tx) ∉ signs) (A1:Tot T1 m f1) (A2:Tot T2 k f2) (he:Z5 ex d lo T1 T2 m k f1 f2):Z5 ex d lo T1 T2 m k (JQ T1 f1 signs) (JQ T2 f2 signs):=by
 intro p1 p2 r1 q1 r2 q2 B1 B2 h1 h2 R o
 unfold JQ at h1 h2
 simp only[Option.bind_eq_some_iff,Prod.exists] at h1 h2
 obtain⟨c1,a1,k1,t1,k2,h1⟩:=h1
 obtain⟨c2,x1,j1,t2,j2,h2⟩:=h2
 have s1:=(A1.st B1 k1).1
 have u1:=(A2.st B2 j1).1
 have o1:=o.back (J1 H.k1 A1 _ _ _ _ _ _ (B1.next s1) h1) (J1 H.k2 A2 _ _ _ _ _ _ (B2.next u1) h2)
 have R1:=he _ _ _ _ _ _ B1 B2 k1 j1 R o1
 exact Fd H h41 A1 A2 he _ _ _ _ _ _ _ _ _ _ _ _ k2 j2 (B1.next s1) (B2.next u1) h1 h2 R1.1 o R1.2
theorem vZ (H:TR ex d lo T1 T2) {e1 e2 pt1 pt2:PM Nd} (A1:Tot T1 (m+1) e1) (A2:Tot T2 (k+1) e2) (he:Z5 ex d lo T1 T2 (m+1) (k+1) e1 e2) (P1:Tot T1 (m+1) pt1) (P2:Tot T2 (k+1) pt2) (hp:Z5 ex d lo T1 T2 (m+1) (k+1) pt1 pt2):Z5 ex d lo T1 T2 m k (GS T1 e1 pt1) (GS T2 e2 pt2) :=
 ww H (by decide) (Vz H.k1 (Y' H.k1 A1 P1)) (Vz H.k2 (Y' H.k2 A2 P2)) (ww H (by decide) (Y' H.k1 A1 P1) (Y' H.k2 A2 P2) (nB H A1 A2 he P1 P2 hp))
theorem bx (H:TR ex d lo T1 T2) {e1 e2 pt1 pt2:PM Nd} (A1:Tot T1 (m+1) e1) (A2:Tot T2 (k+1) e2) (he:Z5 ex d lo T1 T2 (m+1) (k+1) e1 e2) (P1:Tot T1 (m+1) pt1) (P2:Tot T2 (k+1) pt2) (hp:Z5 ex d lo T1 T2 (m+1) (k+1) pt1 pt2):Z5 ex d lo T1 T2 m k (Hx T1 e1 pt1) (Hx T2 e2 pt2):=by
 intro p1 p2 r1 q1 r2 q2 B1 B2 h1 h2 R o
 unfold Hx at h1 h2
 simp only[Option.bind_eq_some_iff,Prod.exists] at h1 h2
 obtain⟨c1,a1,k1,t1,k2,h1⟩:=h1
 obtain⟨c2,x1,j1,t2,j2,h2⟩:=h2
 have s1:=((JH H.k1 A1 P1).st B1 k1).1
 have u1:=((JH H.k2 A2 P2).st B2 j1).1
 have C1:=B1.next s1
 have C2:=B2.next u1
 have stp:∀ {T:List Tk} {e pt:PM Nd} {m:Nat} (hT:TOK T) (A:Tot T (m+1) e) (P:Tot T (m+1) pt) {c r:Nd} {p q:PS} {t:Tk},Bd T m p→(if isT t [61]=true∨isT t [60]=true then (ZM T p).bind fun q=>(GS T e pt q.2).map fun u=>(zT 13 c.pos t.text [c,u.1],u.2) else some (c,p))=some (r,q)→Step T p q:=by
  intro T e pt m hT A P c r p q t B h
  split at h
  ·simp only[Option.bind_eq_some_iff,Option.map_eq_some_iff,Prod.exists,Prod.mk.injEq] at h
   obtain⟨v,y,k,n,z,k',_,rfl⟩:=h
   have s:=(qQ hT B.lt k).1
   exact s.trans ((JH hT A P).st (B.next s) k').1
  ·cases h;exact .refl B.lt
 have o1:=o.back (stp H.k1 A1 P1 C1 h1) (stp H.k2 A2 P2 C2 h2)
 have R1:=vZ H A1 A2 he P1 P2 hp _ _ _ _ _ _ B1 B2 k1 j1 R o1
 have hR:=XZ H R1.1 C1.lt k2 j2
 rw[←hR.isT (s:=[61]) (by decide),←hR.isT (s:=[60]) (by decide)] at h2
 split at h1
 ·rename_i c;rw[if_pos c] at h2
  have hS:=hR.sm (by rcases c with c | c <;> exact QV c)
  simp only[Option.bind_eq_some_iff,Option.map_eq_some_iff,Prod.exists,Prod.mk.injEq] at h1 h2
  obtain⟨v1,a2,k3,n1,a3,k4,rfl,rfl⟩:=h1
  obtain⟨v2,x2,j3,n2,x3,j4,rfl,rfl⟩:=h2
  have y1:=(qB k3).1
  have y2:=(qB j3).1
  rw[k2] at y1;rw[j2] at y2
  cases y1;cases y2
  have s2:=(qQ H.k1 C1.lt k3).1
  have u2:=(qQ H.k2 C2.lt j3).1
  have R3:=vZ H A1 A2 he P1 P2 hp _ _ _ _ _ _ (C1.next s2) (C2.next u2) k4 j4 (Qe R1.1 k3 j3 hS) o
  rw[hS.2.1]
  exact⟨R3.1,Qu (V7 R1.2 R3.2)⟩
 ·rename_i c;rw[if_neg c] at h2
  cases h1;cases h2;exact R1
theorem Ka {e:PM Nd} {p q:PS} {x:Tx} {rc:Bool} {v:Nd} (h:Ye T e p=some ((x,rc,v),q)):∃ p1 t p2 p3 p4,Xx T [114,101,99] p=some (rc,p1)∧XV T 3 p1=some (t,p2)∧x=t.text∧qJ T [61] p2=some p3 ∧
  (if rc=true∧p3.deep<40 then (Jn T [102,117,110] p3).bind fun b=>if b then some p3 else Za T 14 p3 else some p3)=some p4∧X9 T e p4=some (v,q):=by
 unfold Ye at h
 simp only[Option.bind_eq_some_iff,Option.map_eq_some_iff,Prod.exists,Prod.mk.injEq] at h
 obtain⟨b,p1,k1,t,p2,k2,p3,k3,p4,k4,n,p5,k5,⟨rfl,rfl,rfl⟩,rfl⟩:=h
 exact⟨p1,t,p2,p3,p4,k1,k2,rfl,k3,k4,k5⟩
theorem FG {p3 p4:PS} {rc:Bool} (hp:p3.pos<T.length) (h:(if rc=true∧p3.deep<40 then (Jn T [102,117,110] p3).bind fun b=>if b then some p3 else Za T 14 p3 else some p3)=some p4):Step T p3 p4:=by
 split at h
 ·simp only[Option.bind_eq_some_iff] at h
  obtain⟨b,_,h⟩:=h
  split at h
  ·cases h;exact .refl hp
  ·exact Le hp h
 ·cases h;exact .refl hp
theorem UW (hT:TOK T) {e:PM Nd} (A:Tot T (m+1) e) {p q:PS} {x:Tx} {rc:Bool} {v:Nd} (B:Bd T m p) (h:Ye T e p=some ((x,rc,v),q)):Step T p q∧Strict p q:=by
 obtain⟨p1,t,p2,p3,p4,k1,k2,_,k3,k4,k5⟩:=Ka h
 have s1:=XA hT B.lt k1
 obtain⟨s2,x2⟩:=Xq hT s1.lt (by decide) k2
 have s3:=(qj hT s2.lt k3).1
 have s4:=FG s3.lt k4
 have s5:=((qT hT A).st ((((B.next s1).next s2).next s3).next s4) k5).1
 have sr:=s3.trans (s4.trans s5)
 exact⟨s1.trans (s2.trans sr),Strict.r s1 (s2.trans sr) (x2.l sr)⟩
theorem yH (H:TR ex d lo T1 T2) {e1 e2:PM Nd} (A1:Tot T1 (m+1) e1) (A2:Tot T2 (k+1) e2) (he:Z5 ex d lo T1 T2 (m+1) (k+1) e1 e2) {p1 p2 q1 q2:PS} {x1 x2:Tx} {b1 b2:Bool} {v1 v2:Nd} (B1:Bd T1 m p1) (B2:Bd T2 k p2)
  (h1:Ye T1 e1 p1=some ((x1,b1,v1),q1)) (h2:Ye T2 e2 p2=some ((x2,b2,v2),q2)) (R:Rel d lo p1 p2) (o:Ok ex q1 q2):Rel d lo q1 q2∧x1=x2∧b1=b2∧qz v1 v2=true:=by
 obtain⟨a1,t1,a2,a3,a4,k1,k2,rfl,k3,k4,k5⟩:=Ka h1
 obtain⟨y1,t2,y2,y3,y4,j1,j2,rfl,j3,j4,j5⟩:=Ka h2
 have s1:=XA H.k1 B1.lt k1
 have s2:=(Xq H.k1 s1.lt (by decide) k2).1
 have s3:=(qj H.k1 s2.lt k3).1
 have C1:=((B1.next s1).next s2).next s3
 have s4:=FG s3.lt k4
 have s5:=((qT H.k1 A1).st (C1.next s4) k5).1
 have u1:=XA H.k2 B2.lt j1
 have u2:=(Xq H.k2 u1.lt (by decide) j2).1
 have u3:=(qj H.k2 u2.lt j3).1
 have C2:=((B2.next u1).next u2).next u3
 have u4:=FG u3.lt j4
 have u5:=((qT H.k2 A2).st (C2.next u4) j5).1
 have o4:=o.back s5 u5
 have o3:=o4.back s4 u4
 have o2:=o3.back s3 u3
 obtain⟨rfl,R1⟩:=Ft H R B1.lt (by decide) k1 j1
 have R2:=Gp H R1 s1.lt (by decide) k2 j2 o2
 have R3:=QB H R2.1 s2.lt k3 j3 o3
 have R4:Rel d lo a4 y4:=by
  by_cases c1:b1=true∧a3.deep<40
  ·by_cases c2:b1=true∧y3.deep<40
   ·rw[if_pos c1] at k4;rw[if_pos c2] at j4
    simp only[Option.bind_eq_some_iff] at k4 j4
    obtain⟨f1,g1,k4⟩:=k4
    obtain⟨f2,g2,j4⟩:=j4
    have hb:=km H R3 s3.lt (by decide) g1 g2
    subst hb
    cases f1 with
    | true =>
     simp only[if_true,Option.some.injEq] at k4 j4
     subst k4;subst j4;exact R3
    | false=>exact VL R3 (by simpa using k4) (by simpa using j4)
   ·exfalso
    have c3:40≤y3.deep:=Nat.le_of_not_lt fun h=>c2 ⟨c1.1,h⟩
    cases hx:ex with
    | true=>have hd:=H.dx hx;have:=R3.deep;omega
    | false =>
     have hz:=(o.f hx).2
     have:y4=y3:=by rw[if_neg c2] at j4;exact (Option.some.inj j4).symm
     subst this
     unfold X9 at j5
     rw[if_pos c3] at j5
     simp only[Option.bind_eq_some_iff] at j5
     obtain⟨p',g,j5⟩:=j5
     have hne:=Qa g (by decide)
     rw[if_pos hne] at j5
     cases j5;exact hne hz
  ·by_cases c2:b1=true∧y3.deep<40
   ·exfalso;exact c1 ⟨c2.1,by have:=R3.deep;omega⟩
   ·rw[if_neg c1] at k4;rw[if_neg c2] at j4
    cases k4;cases j4;exact R3
 have R5:=Vo H he _ _ _ _ _ _ (C1.next s4) (C2.next u4) k5 j5 R4 o
 exact⟨R5.1,R2.2.2.1,rfl,R5.2⟩
theorem bk (H:TR ex d lo T1 T2) {e1 e2:PM Nd} (A1:Tot T1 (m+1) e1) (A2:Tot T2 (k+1) e2) (he:Z5 ex d lo T1 T2 (m+1) (k+1) e1 e2):Z5 ex d lo T1 T2 m k (GE T1 e1) (GE T2 e2):=by
 intro p1 p2 r1 q1 r2 q2 B1 B2 h1 h2 R o
 have h1':=h1
 unfold GE at h1 h2
 simp only[Option.bind_eq_some_iff,Option.map_eq_some_iff,Prod.exists,Prod.mk.injEq] at h1 h2
 obtain⟨t1,a1,k1,x1,b1,v1,a2,k2,a3,k3,n1,a4,k4,rfl,rfl⟩:=h1
 obtain⟨t2,y1,j1,x2,b2,v2,y2,j2,y3,j3,n2,y4,j4,rfl,rfl⟩:=h2
 have hS:=XW H (vD H.k1 A1) B1 h1' R o (qB k1).1 (qB j1).1
 have s1:=(qQ H.k1 B1.lt k1).1
 have s2:=(UW H.k1 A1 (B1.next s1) k2).1
 have s3:=(qj H.k1 s2.lt k3).1
 have C1:=((B1.next s1).next s2).next s3
 have s4:=((qT H.k1 A1).st C1 k4).1
 have u1:=(qQ H.k2 B2.lt j1).1
 have u2:=(UW H.k2 A2 (B2.next u1) j2).1
 have u3:=(qj H.k2 u2.lt j3).1
 have C2:=((B2.next u1).next u2).next u3
 have u4:=((qT H.k2 A2).st C2 j4).1
 have o3:=o.back s4 u4
 have o2:=o3.back s3 u3
 obtain⟨R2,rfl,rfl,hv⟩:=yH H A1 A2 he (B1.next s1) (B2.next u1) k2 j2 (Qe R k1 j1 hS) o2
 have R3:=QB H R2 s2.lt k3 j3 o3
 have R4:=Vo H he _ _ _ _ _ _ C1 C2 k4 j4 R3 o
 exact⟨R4.1,Qu (V7 hv R4.2)⟩
theorem de (H:TR ex d lo T1 T2) {e1 e2:PM Nd} (A1:Tot T1 (m+1) e1) (A2:Tot T2 (k+1) e2) (he:Z5 ex d lo T1 T2 (m+1) (k+1) e1 e2):Z5 ex d lo T1 T2 m k (GO T1 e1) (GO T2 e2):=by
 intro p1 p2 r1 q1 r2 q2 B1 B2 h1 h2 R o
 have h1':=h1
 unfold GO at h1 h2
 simp only[Option.bind_eq_some_iff,Option.map_eq_some_iff,Prod.exists,Prod.mk.injEq] at h1 h2
 obtain⟨t1,a1,k1,w1,a2,k2,a3,k3,n1,a4,k4,rfl,rfl⟩:=h1
 obtain⟨t2,y1,j1,w2,y2,j2,y3,j3,n2,y4,j4,rfl,rfl⟩:=h2
 have hS:=XW H (ur H.k1 A1) B1 h1' R o (qB k1).1 (qB j1).1
 have s1:=(qQ H.k1 B1.lt k1).1
 have s2:=(Xq H.k1 s1.lt (by decide) k2).1
 have s3:=(qj H.k1 s2.lt k3).1
 have C1:=((B1.next s1).next s2).next s3
 have s4:=((qT H.k1 A1).st C1 k4).1
 have u1:=(qQ H.k2 B2.lt j1).1
 have u2:=(Xq H.k2 u1.lt (by decide) j2).1
 have u3:=(qj H.k2 u2.lt j3).1
 have C2:=((B2.next u1).next u2).next u3
 have u4:=((qT H.k2 A2).st C2 j4).1
 have o3:=o.back s4 u4
 have o2:=o3.back s3 u3
 have R2:=Gp H (Qe R k1 j1 hS) s1.lt (by decide) k2 j2 o2
 have R3:=QB H R2.1 s2.lt k3 j3 o3
 have R4:=Vo H he _ _ _ _ _ _ C1 C2 k4 j4 R3 o
 rw[R2.2.2.1]
 exact⟨R4.1,Qu (EH R4.2)⟩
theorem wN (H:TR ex d lo T1 T2) {e1 e2:PM Nd} (A1:Tot T1 (m+1) e1) (A2:Tot T2 (k+1) e2) (he:Z5 ex d lo T1 T2 (m+1) (k+1) e1 e2):Z5 ex d lo T1 T2 m k (Jf T1 e1) (Jf T2 e2):=by
 intro p1 p2 r1 q1 r2 q2 B1 B2 h1 h2 R o
 have h1':=h1
 unfold Jf at h1 h2
 simp only[Option.bind_eq_some_iff,Option.map_eq_some_iff,Prod.exists,Prod.mk.injEq] at h1 h2
 obtain⟨t1,a1,k1,c1,a2,k2,a3,k3,n1,a4,k4,a5,k5,z1,a6,k6,rfl,rfl⟩:=h1
 obtain⟨t2,y1,j1,c2,y2,j2,y3,j3,n2,y4,j4,y5,j5,z2,y6,j6,rfl,rfl⟩:=h2
 have hS:=XW H (Dt H.k1 A1) B1 h1' R o (qB k1).1 (qB j1).1
 have s1:=(qQ H.k1 B1.lt k1).1
 have s2:=((qT H.k1 A1).st (B1.next s1) k2).1
 have s3:=(qj H.k1 s2.lt k3).1
 have C1:=((B1.next s1).next s2).next s3
 have s4:=((qT H.k1 A1).st C1 k4).1
 have s5:=(qj H.k1 s4.lt k5).1
 have D1:=(C1.next s4).next s5
 have s6:=((qT H.k1 A1).st D1 k6).1
 have u1:=(qQ H.k2 B2.lt j1).1
 have u2:=((qT H.k2 A2).st (B2.next u1) j2).1
 have u3:=(qj H.k2 u2.lt j3).1
 have C2:=((B2.next u1).next u2).next u3
 have u4:=((qT H.k2 A2).st C2 j4).1
 have u5:=(qj H.k2 u4.lt j5).1
 have D2:=(C2.next u4).next u5
 have u6:=((qT H.k2 A2).st D2 j6).1
 have o5:=o.back s6 u6
 have o4:=o5.back s5 u5
 have o3:=o4.back s4 u4
 have o2:=o3.back s3 u3
 have R2:=Vo H he _ _ _ _ _ _ (B1.next s1) (B2.next u1) k2 j2 (Qe R k1 j1 hS) o2
 have R3:=QB H R2.1 s2.lt k3 j3 o3
 have R4:=Vo H he _ _ _ _ _ _ C1 C2 k4 j4 R3 o4
 have R5:=QB H R4.1 s4.lt k5 j5 o5
 have R6:=Vo H he _ _ _ _ _ _ D1 D2 k6 j6 R5 o
 exact⟨R6.1,Qu (nv R2.2 R4.2 R6.2)⟩
theorem dC (H:TR ex d lo T1 T2) {e1 e2 pt1 pt2:PM Nd} (A1:Tot T1 (m+1) e1) (A2:Tot T2 (k+1) e2) (he:Z5 ex d lo T1 T2 (m+1) (k+1) e1 e2) (P1:Tot T1 (m+1) pt1) (P2:Tot T2 (k+1) pt2) (hp:Z5 ex d lo T1 T2 (m+1) (k+1) pt1 pt2):Z5 ex d lo T1 T2 m k (UJ T1 e1 pt1) (UJ T2 e2 pt2):=by
 intro p1 p2 r1 q1 r2 q2 B1 B2 h1 h2 R o
 have h1':=h1
 unfold UJ at h1 h2
 simp only[Option.bind_eq_some_iff] at h1 h2
 obtain⟨t1,k0,h1⟩:=h1
 obtain⟨t2,j0,h2⟩:=h2
 have hS:=XW H (vP H.k1 A1 P1) B1 h1' R o k0 j0
 rw[←hS.1,←hS.2.1] at h2
 split at h1
 ·rename_i c;rw[if_pos c] at h2
  exact bk H A1 A2 he _ _ _ _ _ _ B1 B2 h1 h2 R o
 rename_i c;rw[if_neg c] at h2
 split at h1
 ·rename_i c;rw[if_pos c] at h2
  exact de H A1 A2 he _ _ _ _ _ _ B1 B2 h1 h2 R o
 rename_i c;rw[if_neg c] at h2
 split at h1
 ·rename_i c;rw[if_pos c] at h2
  exact wN H A1 A2 he _ _ _ _ _ _ B1 B2 h1 h2 R o
 rename_i c;rw[if_neg c] at h2
 simp only[Option.bind_eq_some_iff,Prod.exists] at h1 h2
 obtain⟨c1,a1,k1,b1,a2,k2,h1⟩:=h1
 obtain⟨c2,x1,j1,b2,x2,j2,h2⟩:=h2
 have s1:=((UD H.k1 A1 P1).st B1 k1).1
 have u1:=((UD H.k2 A2 P2).st B2 j1).1
 have mst:∀ {T:List Tk} (hT:TOK T) {p q:PS} {b:Bool},p.pos<T.length→(if p.flat=true then some (false,p) else Xx T [59] p)=some (b,q)→Step T p q:=by
  intro T hT p q b hp h
  split at h
  ·cases h;exact .refl hp
  ·exact XA hT hp h
 have s2:=mst H.k1 s1.lt k2
 have u2:=mst H.k2 u1.lt j2
 have C1:=(B1.next s1).next s2
 have C2:=(B2.next u1).next u2
 have est:∀ {T:List Tk} {e:PM Nd} {m:Nat} (hT:TOK T) (A:Tot T (m+1) e) {c r:Nd} {p q:PS} {b:Bool},Bd T m p→(if b=true then (X9 T e p).map fun u=>(zT 14 c.pos [] [c,u.1],u.2) else some (c,p))=some (r,q)→Step T p q:=by
  intro T e m hT A c r p q b B h
  split at h
  ·simp only[Option.map_eq_some_iff,Prod.exists,Prod.mk.injEq] at h
   obtain⟨n,z,k',_,rfl⟩:=h
   exact ((qT hT A).st B k').1
  ·cases h;exact .refl B.lt
 have o2:=o.back (est H.k1 A1 C1 h1) (est H.k2 A2 C2 h2)
 have o1:=o2.back s2 u2
 have R1:=bx H A1 A2 he P1 P2 hp _ _ _ _ _ _ B1 B2 k1 j1 R o1
 have R2:b1=b2∧Rel d lo a2 x2:=by
  rw[R1.1.flat] at j2
  split at k2
  ·rename_i c;rw[if_pos c] at j2
   cases k2;cases j2;exact⟨rfl,R1.1⟩
  ·rename_i c;rw[if_neg c] at j2
   exact Ft H R1.1 s1.lt (by decide) k2 j2
 obtain⟨rfl,R2⟩:=R2
 cases b1 with
 | true =>
  simp only[if_true,Option.map_eq_some_iff,Prod.exists,Prod.mk.injEq] at h1 h2
  obtain⟨n1,a3,k3,rfl,rfl⟩:=h1
  obtain⟨n2,x3,j3,rfl,rfl⟩:=h2
  have R3:=Vo H he _ _ _ _ _ _ C1 C2 k3 j3 R2 o
  exact⟨R3.1,Qu (V7 R1.2 R3.2)⟩
 | false =>
  simp only[Bool.false_eq_true,if_false,Option.some.injEq,Prod.mk.injEq] at h1 h2
  obtain⟨rfl,rfl⟩:=h1
  obtain⟨rfl,rfl⟩:=h2
  exact⟨R2,R1.2⟩
theorem LJ (H:TR ex d lo T1 T2):∀ (n1 n2 m k:Nat),43≤m+n1→43≤k+n2→Z5 ex d lo T1 T2 m k (Wx T1 n1) (Wx T2 n2)
 | 0,n2,m,k,h,h'=>fun p1 p2 r1 q1 r2 q2 B1 B2 h1=>by cases h1
 | n1+1,0,m,k,h,h'=>fun p1 p2 r1 q1 r2 q2 B1 B2 h1 h2=>by cases h2
 | n1+1,n2+1,m,k,h,h'=>dC H (YI H.k1 n1 (m+1) (by omega)) (YI H.k2 n2 (k+1) (by omega)) (LJ H n1 n2 (m+1) (k+1) (by omega) (by omega)) (YK H.k1 (n1+1) (m+1) (by omega)) (YK H.k2 (n2+1) (k+1) (by omega)) (Ln H (n1+1) (n2+1) (m+1) (k+1) (by omega) (by omega))
end Go.AL
namespace Go.AL
variable {ex:Bool} {d lo:Nat} {T1 T2 T:List Tk} {m k:Nat}
theorem nO (hT:TOK T) {e ty:PM Nd} (A:Tot T (m+1) e) (Y:Tot T (m+1) ty) {p q:PS} {r:Nd} (B:Bd T m p) (hf:p.flat=false) (h:WE T e ty p=some (r,q)):Step T p q:=by
 obtain⟨nd,q',h1,h2,_⟩:=vW hT A Y B.lt B.lo B.hi hf
 rw[h1] at h;cases h;exact h2
theorem Hu {e ty:PM Nd} {n:Nat} {nd r:Nd} {p q:PS} (h:VB T e ty (n+1) nd p=some (r,q)):∃ a b,Jn T [116,121,112,101] p=some a∧(if a=true then some true else Jn T [108,101,116] p)=some b ∧
  ((b=false∧r=nd∧q=p)∨(b=true∧∃ p1 c p2,Z8 T nd.kids.length 60 p=some p1∧WE T e ty p1=some (c,p2)∧VB T e ty n (nd.addKid c) p2=some (r,q))):=by
 unfold VB at h
 simp only[Option.bind_eq_some_iff] at h
 obtain⟨a,k0,b,k1,h⟩:=h
 refine⟨a,b,k0,k1,?_⟩
 cases b with
 | false=>simp only[Bool.false_eq_true,if_false,Option.some.injEq,Prod.mk.injEq] at h;exact .inl ⟨rfl,h.1.symm,h.2.symm⟩
 | true =>
  simp only[if_true,Option.bind_eq_some_iff,Prod.exists] at h
  obtain⟨p1,k2,c,p2,k3,h⟩:=h
  exact .inr ⟨rfl,p1,c,p2,k2,k3,h⟩
theorem uw (hT:TOK T) {t:Tk} (ht:T[0]?=some t) (hk:t.kind=6) (hx:t.text=[100,111]) {n:Nd} {b:Int} (h:YO T=some (n,b,0)):∃ c q,Wx T 42 ⟨1,1,false,0,0⟩=some (c,q)∧q.e=0∧(∃ v,zR T q=some v∧v.kind=0)∧n = .mk 30 [] 0 t.pos [] [c]:=by
 unfold YO at h
 simp only[Option.map_eq_some_iff,Prod.exists] at h
 obtain⟨r,q,k1,h⟩:=h
 have he:q.e=0:=by
  by_cases c:q.e=0
  ·exact c
  ·rw[if_neg c] at h;simp only[Prod.mk.injEq] at h;exact absurd h.2.2 c
 rw[if_pos he] at h
 simp only[Prod.mk.injEq] at h
 obtain⟨rfl,_⟩:=h
 unfold KC at k1
 simp only[Option.bind_eq_some_iff,Option.map_eq_some_iff,Prod.exists,Prod.mk.injEq] at k1
 obtain⟨t1,l1,c1,a1,k2,a2,k3,u1,a3,k4,v1,k5,a4,k6,rfl,rfl⟩:=k1
 have hl:zR T ⟨0,0,false,0,0⟩=some t:=by unfold zR;rw[if_pos rfl];exact ht
 rw[hl] at l1;cases l1
 obtain⟨x,y,i1,i2,k2⟩:=Hu k2
 obtain⟨t',g1,rfl⟩:=Wa i1
 rw[hl] at g1;cases g1
 have f1:isT t [116,121,112,101]=false:=by unfold isT;rw[hx];simp
 rw[f1] at i2
 obtain⟨t',g2,rfl⟩:=Wa (by simpa using i2)
 rw[hl] at g2;cases g2
 have f2:isT t [108,101,116]=false:=by unfold isT;rw[hx];simp
 rcases k2 with⟨_,rfl,rfl⟩ | ⟨c,_⟩
 rotate_left
 ·rw[f2] at c;cases c
 obtain⟨b',q',m1,m2⟩:=WH k3
 obtain⟨t',g3,e3,m3⟩:=Yz m1
 rw[hl] at g3;cases g3
 have f3:isT t [100,111]=true:=by unfold isT;rw[hx,hk];simp
 rw[f3] at e3;subst e3
 simp only[if_true] at m2 m3
 subst m2
 obtain⟨_,e4⟩:=qB m3
 rw[if_pos ⟨rfl,by rw[hk];decide⟩] at e4
 subst e4
 unfold X9 at k4
 rw[if_neg (by decide)] at k4
 simp only[Option.bind_some] at k4
 rw[if_neg (by decide)] at k4
 simp only[Option.bind_eq_some_iff,Prod.exists] at k4
 obtain⟨c,z,k7,k8⟩:=k4
 split at k8
 ·cases k8
 simp only[Option.some.injEq,Prod.mk.injEq] at k8
 obtain⟨rfl,rfl⟩:=k8
 have hv0:v1.kind=0:=by
  by_cases c0:v1.kind=0
  ·exact c0
  ·rw[if_pos c0] at k6;exact absurd he (Qa k6 (by decide))
 rw[if_neg (by simp[hv0])] at k6
 cases k6
 exact⟨c,z,k7,he,⟨v1,k5,hv0⟩,rfl⟩
theorem LD (hT:TOK T) {n:Nat} {p q:PS} {c:Nd} {t:Tk} (B:Bd T (42-n) p) (hl:zR T p=some t) (h6:t.kind=6→Qm t.text=(0,0)∧t.text≠[108,101,116]∧t.text≠[102,117,110]∧t.text≠[105,102]) (hn:n≤42) (h:Wx T (n+1) p=some (c,q)) :
  ∃ u a,Xz T (Wx T n) (Df T (n+1)) p=some (u,a)∧Step T a q∧(q.e=0→(∃ v,zR T a=some v∧(v.kind=0∨(v.kind=5∧v.text=[41])))→c=u∧q=a):=by
 have A:=YI hT n (43-n) (by omega)
 have P:=YK hT (n+1) (43-n) (by omega)
 have e43:43-n=(42-n)+1:=by omega
 rw[e43] at A P
 rw[show Wx T (n+1)=UJ T (Wx T n) (Df T (n+1)) from rfl] at h
 unfold UJ at h
 rw[hl] at h
 simp only[Option.bind_some] at h
 rw[if_neg (fun x=>(h6 x.1).2.1 x.2),if_neg (fun x=>(h6 x.1).2.2.1 x.2),if_neg (fun x=>(h6 x.1).2.2.2 x.2)] at h
 simp only[Option.bind_eq_some_iff,Prod.exists] at h
 obtain⟨c1,a1,k1,b1,a2,k2,h⟩:=h
 have s1:=((UD hT A P).st B k1).1
 have st2:Step T a1 a2:=by
  split at k2
  ·cases k2;exact .refl s1.lt
  ·exact XA hT s1.lt k2
 have C1:=(B.next s1).next st2
 have st3:Step T a2 q:=by
  split at h
  ·simp only[Option.map_eq_some_iff,Prod.exists,Prod.mk.injEq] at h
   obtain⟨n',z,k',_,rfl⟩:=h
   exact ((qT hT A).st C1 k').1
  ·cases h;exact .refl C1.lt
 unfold Hx at k1
 simp only[Option.bind_eq_some_iff,Prod.exists] at k1
 obtain⟨c2,a3,k3,t3,k4,k1⟩:=k1
 have s3:=((JH hT A P).st B k3).1
 have st4:Step T a3 a1:=by
  split at k1
  ·simp only[Option.bind_eq_some_iff,Option.map_eq_some_iff,Prod.exists,Prod.mk.injEq] at k1
   obtain⟨v,y,g1,n',z,g2,_,rfl⟩:=k1
   have s:=(qQ hT s3.lt g1).1
   exact s.trans ((JH hT A P).st ((B.next s3).next s) g2).1
  ·cases k1;exact .refl s3.lt
 unfold GS JQ at k3
 simp only[Option.bind_eq_some_iff,Prod.exists] at k3
 obtain⟨c4,a4,k5,t4,k6,k3⟩:=k3
 have PT:=Vz hT (signs:=E') (Y' hT A P)
 have s4:=(PT.st B k5).1
 have st5:=J1 hT PT _ _ _ _ _ _ (B.next s4) k3
 unfold ta JQ at k5
 simp only[Option.bind_eq_some_iff,Prod.exists] at k5
 obtain⟨c5,a5,k7,t5,k8,k5⟩:=k5
 have AT:=Y' hT A P
 have s5:=(AT.st B k7).1
 have st6:=J1 hT AT _ _ _ _ _ _ (B.next s5) k5
 unfold Hl at k7
 rw[hl] at k7
 simp only[Option.bind_some] at k7
 rw[if_neg (by rintro⟨x,y⟩;rw[(h6 x).1] at y;exact absurd y (by decide))] at k7
 simp only[Option.bind_eq_some_iff,Prod.exists] at k7
 obtain⟨u,a6,k9,k7⟩:=k7
 have s6:=((Zo hT A P).st B k9).1
 have st7:=Ja hT A P _ _ _ _ _ _ (B.next s6) k7
 refine⟨u,a6,k9,st7.trans (st6.trans (st5.trans (st4.trans (st2.trans st3)))),fun hq ⟨v,hv,hv0⟩=>?_⟩
 have zi:∀ s:Tx,s≠[41]→isT v s=false:=fun s hs=>by
  rcases hv0 with h0 | ⟨h5,hx⟩
  ·cases hb:isT v s with
   | false=>rfl
   | true=>exact absurd h0 (QV hb)
  ·unfold isT;rw[hx]
   have e:([41]==s)=false:=beq_eq_false_iff_ne.2 (fun h=>hs h.symm)
   rw[e];simp
 have z1:ZD v=false:=by
  unfold ZD
  rw[zi _ (by decide),zi _ (by decide),zi _ (by decide),zi _ (by decide)]
  rcases hv0 with h0 | ⟨h5,hx⟩
  ·rw[h0];rfl
  ·rw[h5];rfl
 have zs:∀ signs:List Tx,[41] ∉ signs→¬ (v.kind=5∧v.text∈signs):=by
  rintro signs hs ⟨a,b⟩
  rcases hv0 with h0 | ⟨_,hx⟩
  ·rw[h0] at a;cases a
  ·rw[hx] at b;exact hs b
 unfold JY at k7
 rw[hv] at k7
 simp only[Option.bind_some] at k7
 rw[if_neg (by rw[z1];decide)] at k7
 cases k7
 rw[hv] at k8;cases k8
 unfold Ji at k5
 rw[if_neg (zs _ (by decide))] at k5
 cases k5
 rw[hv] at k6;cases k6
 unfold Ji at k3
 rw[if_neg (zs _ (by decide))] at k3
 cases k3
 rw[hv] at k4;cases k4
 rw[if_neg (by rw[zi _ (by decide),zi _ (by decide)];decide)] at k1
 cases k1
 have hb1:b1=false∧a2=a1:=by
  split at k2
  ·cases k2;exact⟨rfl,rfl⟩
  ·obtain⟨t',g1,g2,g3⟩:=Yz k2
   rw[hv] at g1;cases g1
   rw[zi _ (by decide)] at g2;subst g2
   exact⟨rfl,by simpa using g3⟩
 obtain⟨rfl,rfl⟩:=hb1
 simp only[Bool.false_eq_true,if_false,Option.some.injEq,Prod.mk.injEq] at h
 exact⟨h.1.symm,h.2.symm⟩
theorem nk (hT:TOK T) {n:Nat} {p q:PS} {c:Nd} {t:Tk} (B:Bd T (42-n) p) (hl:zR T p=some t) (ht:isT t [41]=true) (hn:n≤42) (h:Wx T (n+1) p=some (c,q)):q.e≠0:=by
 obtain⟨hk0,hx⟩:=oL ht
 have hk:t.kind=5∨t.kind=6:=by
  unfold isT at ht
  simp only[Bool.and_eq_true,Bool.or_eq_true,beq_iff_eq] at ht
  exact ht.1
 obtain⟨u,a,h1,h2,_⟩:=LD hT B hl (fun _=>by rw[hx];decide) hn h
 have f:∀ s:Tx,s≠[41]→isT t s=false:=fun s hs=>by
  unfold isT;rw[hx]
  have e:([41]==s)=false:=beq_eq_false_iff_ne.2 (fun h=>hs h.symm)
  rw[e];simp
 unfold Xz at h1
 rw[hl] at h1
 simp only[Option.bind_some] at h1
 rw[f _ (by decide),f _ (by decide),f _ (by decide),f _ (by decide)] at h1
 simp only[Bool.false_eq_true,if_false] at h1
 unfold Xs at h1
 rw[hl] at h1
 simp only[Option.bind_some] at h1
 rw[if_pos (by rcases hk with hk | hk <;> rw[hk] <;> decide)] at h1
 simp only[Option.map_eq_some_iff,Prod.mk.injEq] at h1
 obtain⟨a',h3,_,rfl⟩:=h1
 exact fun hq=>Qa h3 (by decide) (h2.e0 hq)
end Go.AL
namespace Go.AL
open Go.Proofs (tokensL_end tokensL_step)
inductive Lx:Tx→Nat→List Tk→Prop where
 | nil {s:Tx} {k:Nat} (h:s.drop (qh false s)=[]):Lx s k [⟨0,[],0,((k+qh false s:Nat):Int)⟩]
 | cons {s r:Tx} {c:UInt8} {k n:Nat} {t:Tk} {T:List Tk} (h:s.drop (qh false s)=c::r) (ht:Xc (c::r) ((k+qh false s:Nat):Int) = .ok (t,n)) (hr:Lx ((c::r).drop n) (k+qh false s+n) T):Lx s k (t::T)
theorem EZ {c:UInt8} {r:Tx} {p:Int} {t:Tk} {n:Nat} (h:Xc (c::r) p = .ok (t,n)):t.pos=p∧1≤n∧n≤(c::r).length∧t.kind≠0:=by
 generalize hR:Vi c (c::r) p=R
 obtain⟨g,e,t',n'⟩:=R
 obtain⟨h1,h2,h3⟩:=UB hR
 rw[h1] at h
 by_cases he:e=0
 ·rw[if_pos he] at h;cases h
  exact⟨h2,h3 he⟩
 ·rw[if_neg he] at h;cases h
theorem bY:∀ (m:Nat) (s:Tx) (k:Nat) (out T:List Tk),Zn m s k out = .ok T→∃ Ts,T=out++Ts∧Lx s k Ts
 | 0,s,k,out,T,h=>by cases h
 | m+1,s,k,out,T,h=>by
  cases hd:s.drop (qh false s) with
  | nil=>rw[tokensL_end hd] at h;cases h;exact⟨_,rfl,.nil hd⟩
  | cons c r =>
   rw[tokensL_step hd] at h
   cases ht:Xc (c::r) ((k+qh false s:Nat):Int) with
   | error e=>rw[ht] at h;cases h
   | ok y =>
    obtain⟨t,n⟩:=y
    rw[ht] at h
    obtain⟨Ts,h1,h2⟩:=bY m _ _ _ _ h
    exact⟨t::Ts,by rw[h1];simp,.cons hd ht h2⟩
theorem tm {s:Tx} {k:Nat} {Ts:List Tk} (h:Lx s k Ts):∀ (m:Nat) (out:List Tk),s.length<m→Zn m s k out = .ok (out++Ts):=by
 induction h with
 | nil hd =>
  intro m out hm
  cases m with
  | zero=>omega
  | succ m=>exact tokensL_end hd
 | @cons s r c k n t T hd ht _ ih =>
  intro m out hm
  cases m with
  | zero=>omega
  | succ m =>
   rw[tokensL_step hd,ht]
   have hl:=congrArg List.length hd
   simp only[List.length_drop,List.length_cons] at hl
   have hn:=(EZ ht).2.1
   show Zn m _ _ _=_
   rw[ih m (out++[t]) (by simp only[List.length_drop,List.length_cons];omega)]
   simp
theorem Ki {s:Tx} {T:List Tk} (h:Y0 s = .ok T):Lx s 0 T∧s.length≤2000:=by
 unfold Y0 at h
 split at h
 ·cases h
 ·obtain⟨Ts,h1,h2⟩:=bY _ _ _ _ _ h
  rw[List.nil_append] at h1
  subst h1;exact⟨h2,by omega⟩
theorem oD {s:Tx} {k:Nat} {T T':List Tk} (h:Lx s k T) (h':Lx s k T'):T=T':=by
 have a:=tm h (s.length+1) [] (by omega)
 have b:=tm h' (s.length+1) [] (by omega)
 rw[a] at b;simpa using b
theorem Ha {s:Tx} {k:Nat} {T:List Tk} (h:Lx s k T):TOK T∧(∀ (i:Nat) (t:Tk),T[i]?=some t→t.kind=0→i+1=T.length)∧(∀ (i:Nat) (t:Tk),T[i]?=some t→(k:Int)≤t.pos∧t.pos≤((k+s.length:Nat):Int))∧T.length≤s.length+1:=by
 induction h with
 | @nil s k hd =>
  have hsk:=Ve false s
  refine⟨⟨by simp,fun i t h hk=>?_,fun i j a b hij ha hb=>?_⟩,fun i t h _=>?_,fun i t h=>?_,by simp⟩
  ·cases i with
   | zero=>simp at h;rw[←h] at hk;exact absurd rfl hk
   | succ i=>simp at h
  ·cases i with
   | zero =>
    cases j with
    | zero=>simp at ha hb;rw[←ha,←hb];exact Int.le_refl _
    | succ j=>simp at hb
   | succ i=>simp at ha
  ·cases i with
   | zero=>rfl
   | succ i=>simp at h
  ·cases i with
   | zero=>simp at h;rw[←h];simp only;omega
   | succ i=>simp at h
 | @cons s r c k n t T hd ht _ ih =>
  obtain⟨i1,i2,i3,i4⟩:=ih
  obtain⟨tp,tn,tl,tk⟩:=EZ ht
  have hl:=congrArg List.length hd
  have hsk:=Ve false s
  simp only[List.length_drop,List.length_cons] at hl tl i3 i4
  refine⟨⟨by simp,fun i u h hk=>?_,fun i j a b hij ha hb=>?_⟩,fun i u h hk=>?_,fun i u h=>?_,by simp only[List.length_cons];omega⟩
  ·cases i with
   | zero=>have:=i1.pos;simp;omega
   | succ i=>have:=i1.last i u (by simpa using h) hk;simp;omega
  ·cases i with
   | zero =>
    simp only[List.getElem?_cons_zero,Option.some.injEq] at ha
    cases j with
    | zero=>simp only[List.getElem?_cons_zero,Option.some.injEq] at hb;rw[←ha,←hb];exact Int.le_refl _
    | succ j =>
     have:=(i3 j b (by simpa using hb)).1
     rw[←ha,tp];omega
   | succ i =>
    cases j with
    | zero=>omega
    | succ j=>exact i1.sorted i j a b (by omega) (by simpa using ha) (by simpa using hb)
  ·cases i with
   | zero=>simp at h;rw[←h] at hk;exact absurd hk tk
   | succ i=>have:=i2 i u (by simpa using h) hk;simp;omega
  ·cases i with
   | zero=>simp at h;rw[←h,tp];omega
   | succ i=>have:=i3 i u (by simpa using h);omega
theorem EY {p:UInt8→Bool} (h10:p 10=false) {z:Tx}:∀ w:Tx,qp p (w++10::z)=qp p w
 | []=>by rw[List.nil_append,Wd h10];rfl
 | c::w=>by
  rw[List.cons_append]
  cases hc:p c with
  | true=>rw[YM hc,YM hc,EY h10 w]
  | false=>rw[Wd hc,Wd hc]
theorem od (c:UInt8) (r:Tx):qh true (c::r)=if c=10 then qh false r+1 else qh true r+1:=rfl
theorem sV (c:UInt8) (r:Tx):qh false (c::r)=if c=32∨c=9∨c=10 then qh false r+1 else if c=35 then qh true r+1 else 0:=rfl
theorem VA {z:Tx}:∀ (b:Bool) (w:Tx),qh b (w++10::z)=if qh b w<w.length then qh b w else w.length+1+qh false z
 | b,[]=>by
  cases b
  ·show qh false (10::z)=_
   rw[Y4 (.inr (.inr rfl))]
   simp[qh];omega
  ·show qh true (10::z)=_
   simp[qh];omega
 | true,c::w=>by
  rw[List.cons_append,od,od]
  by_cases hc:c=10
  ·rw[if_pos hc,if_pos hc,VA false w]
   simp only[List.length_cons]
   split <;> split <;> omega
  ·rw[if_neg hc,if_neg hc,VA true w]
   simp only[List.length_cons]
   split <;> split <;> omega
 | false,c::w=>by
  rw[List.cons_append,sV,sV]
  by_cases hc:c=32∨c=9∨c=10
  ·rw[if_pos hc,if_pos hc,VA false w]
   simp only[List.length_cons]
   split <;> split <;> omega
  ·rw[if_neg hc,if_neg hc]
   by_cases h2:c=35
   ·rw[if_pos h2,if_pos h2,VA true w]
    simp only[List.length_cons]
    split <;> split <;> omega
   ·rw[if_neg h2,if_neg h2];simp
theorem nU {r z:Tx} {x:UInt8} {n:Nat} (h:Jm r = .ok (x,n)):Jm (r++z) = .ok (x,n):=by
 cases r with
 | nil=>cases h
 | cons c r =>
  rw[List.cons_append]
  unfold Jm at h ⊢
  dsimp only at h ⊢
  split
  ·rename_i c1;rw[if_pos c1] at h;exact h
  rename_i c1;rw[if_neg c1] at h
  split
  ·rename_i c2;rw[if_pos c2] at h;exact h
  rename_i c2;rw[if_neg c2] at h
  split
  ·rename_i c3;rw[if_pos c3] at h;exact h
  rename_i c3;rw[if_neg c3] at h
  split
  ·rename_i c4;rw[if_pos c4] at h;exact h
  rename_i c4;rw[if_neg c4] at h
  cases r with
  | nil=>cases h
  | cons a r =>
   rw[List.cons_append]
   dsimp only at h ⊢
   cases ha:Y6 a with
   | none=>rw[ha] at h;cases h
   | some x1 =>
    rw[ha] at h
    dsimp only at h ⊢
    cases r with
    | nil=>cases h
    | cons b r =>
     rw[List.cons_append]
     dsimp only at h ⊢
     exact h
theorem Ga {z:Tx}:∀ (m m':Nat) (r b:Tx) (k:Nat) (x:Tx) (n:Nat),Yu m r b k = .ok (x,n)→m≤m'→Yu m' (r++z) b k = .ok (x,n)
 | 0,m',r,b,k,x,n,h,hm=>by cases h
 | m+1,0,r,b,k,x,n,h,hm=>by omega
 | m+1,m'+1,[],b,k,x,n,h,hm=>by cases h
 | m+1,m'+1,c::r,b,k,x,n,h,hm=>by
  rw[List.cons_append]
  rw[Go.Proofs.unq_step] at h ⊢
  split
  ·rename_i c1;rw[if_pos c1] at h;exact h
  rename_i c1;rw[if_neg c1] at h
  split
  ·rename_i c2;rw[if_pos c2] at h;exact h
  rename_i c2;rw[if_neg c2] at h
  split
  ·rename_i c3;rw[if_pos c3] at h
   cases he:Jm r with
   | error e=>rw[he] at h;cases h
   | ok y =>
    obtain⟨y,q⟩:=y
    rw[he] at h
    rw[nU he]
    have hq:=(wD he).2
    show Yu m' ((r++z).drop q) _ _=_
    rw[List.drop_append_of_le_length hq]
    exact Ga m m' _ _ _ _ _ h (by omega)
  rename_i c3;rw[if_neg c3] at h
  split
  ·rename_i c4;rw[if_pos c4] at h
   exact Ga m m' _ _ _ _ _ h (by omega)
  ·rename_i c4;rw[if_neg c4] at h;cases h
theorem gD {z r:Tx} {x:Tx} {n:Nat} (h:Vx r = .ok (x,n)):Vx (r++z) = .ok (x,n):=by
 cases r with
 | nil=>cases h
 | cons c r =>
  rw[List.cons_append]
  unfold Vx at h ⊢
  dsimp only at h ⊢
  split
  ·rename_i c1;rw[if_pos c1] at h
   exact Ga _ _ _ _ _ _ _ h (by simp)
  ·rename_i c1;rw[if_neg c1] at h;cases h
def Cg (t:Tk) (p:Int):Tk:=⟨t.kind,t.text,t.num,p⟩
theorem gX {c:UInt8} {r z:Tx} {p p':Int} {t:Tk} {n:Nat} (h:Xc (c::r) p = .ok (t,n)):Xc (c::(r++10::z)) p' = .ok (Cg t p',n):=by
 have tk1:∀ (q:UInt8→Bool),(c::(r++10::z)).take (qp q (c::r))=(c::r).take (qp q (c::r)):=fun q=>by
  rw[←List.cons_append];exact List.take_append_of_le_length (JJ q _)
 have e1:qp qu (c::(r++10::z))=qp qu (c::r):=by rw[←List.cons_append];exact EY (by decide) _
 have e2:qp qe (c::(r++10::z))=qp qe (c::r):=by rw[←List.cons_append];exact EY (by decide) _
 unfold Xc at h ⊢
 dsimp only at h ⊢
 rw[e1,e2,tk1,tk1]
 split
 ·rename_i c1;rw[if_pos c1] at h
  split
  ·rename_i c2;rw[if_pos c2] at h;cases h
  ·rename_i c2;rw[if_neg c2] at h;cases h;rfl
 rename_i c1;rw[if_neg c1] at h
 split
 ·rename_i c2;rw[if_pos c2] at h
  cases hu:Vx (c::r) with
  | error e=>rw[hu] at h;cases h
  | ok y =>
   obtain⟨y,q⟩:=y
   rw[hu] at h
   cases h
   have:=gD (z:=10::z) hu
   rw[List.cons_append] at this
   rw[this];rfl
 rename_i c2;rw[if_neg c2] at h
 split
 ·rename_i c3;rw[if_pos c3] at h
  split
  ·rename_i c4;rw[if_pos c4] at h;cases h
  ·rename_i c4;rw[if_neg c4] at h;cases h;rfl
 rename_i c3;rw[if_neg c3] at h
 split
 ·rename_i c4;rw[if_pos c4] at h
  have hh:((r++10::z).head?=some 62∧c=45)↔(r.head?=some 62∧c=45):=by
   cases r with
   | nil=>simp
   | cons d r=>simp
  by_cases h5:r.head?=some 62∧c=45
  ·rw[if_pos (hh.2 h5)];rw[if_pos h5] at h;cases h;rfl
  ·rw[if_neg (fun x=>h5 (hh.1 x))];rw[if_neg h5] at h;cases h;rfl
 ·rename_i c4;rw[if_neg c4] at h;cases h
end Go.AL
