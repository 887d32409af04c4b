/- The document's parser does as the program's: types, declarations of types, patterns. -/
import Derived.Test.YtkokccjfpebomaaGreatDoorM5
import Derived.Test.YtkokccjfpebomaaGreatDoorS7
import Derived.Test.YtkokccjfpebomaaGreatDoorN9
set_option linter.unusedSimpArgs false
set_option linter.unusedVariables false
namespace Go.AL
variable {T:List Tk} {m:Nat}
structure TKS (T:List Tk):Prop where
 tok:TOK T
 key:∀ t∈T,t.kind=6→t.text∈keysL
 sgn:∀ t∈T,t.kind=5→t.text ∉ keysL
def Hc (x y:Option (Nd×PS)):Prop:=∀ r q,x=some (r,q)→∃ r',y=some (r',q)∧(q.e=0→r'=r)
def Qc (T:List Tk) (m:Nat) (F G:PM Nd):Prop:=∀ p:PS,Bd T m p→Hc (F p) (G p)
theorem KW {p:PS} {t:Tk} (h:zR T p=some t) (hk:t.kind≠0):p.e=0:=by
 by_cases c:p.e=0
 ·exact c
 ·unfold zR at h;rw[if_neg c] at h;cases h;exact absurd rfl hk
theorem Lk {p:PS} {t:Tk} (h:zR T p=some t) (c:¬ p.e=0):t=xB:=by
 unfold zR at h;rw[if_neg c] at h;cases h;rfl
theorem DN {p:PS} {t:Tk} (h:zR T p=some t) (hk:t.kind≠0):t∈T:=by
 have c:=KW h hk
 unfold zR at h;rw[if_pos c] at h;exact List.mem_of_getElem? h
theorem QD {p q:PS} {t u:Tk} (h:zR T p=some t) (hk:t.kind≠0) (ht:ZM T p=some (u,q)):ZA T p=some (t,q)∧u=t:=by
 have he:=KW h hk
 have h2:=(qB ht).1
 rw[h] at h2;cases h2
 refine⟨?_,rfl⟩
 unfold ZA;unfold ZM at ht
 rw[h] at ht ⊢
 simp only[Option.map_some,he,hk,ne_eq,not_false_eq_true,and_self,if_true,Option.some.injEq,Prod.mk.injEq] at ht
 obtain⟨_,rfl⟩:=ht
 simp only[Option.map_some,hk,if_false,he]
theorem Wj {p q:PS} {s:Tx} {b:Bool} (k:Xx T s p=some (b,q)):∃ t,zR T p=some t∧isT t s=b∧Jn T s p=some b∧(b=true→ZA T p=some (t,q)∧p.e=0)∧(b=false→q=p):=by
 obtain⟨t,h1,h2,h3⟩:=Yz k
 refine⟨t,h1,h2.symm,by unfold Jn;rw[h1,h2];rfl,fun hb=>?_,fun hb=>?_⟩
 ·rw[if_pos hb] at h3
  have hk:=QV (h2.symm.trans hb)
  exact⟨(QD h1 hk h3).1,KW h1 hk⟩
 ·rw[hb] at h3;simpa using h3
theorem vU {p q:PS} {s:Tx} {t:Tk} (h:zR T p=some t) (hs:isT t s=true) (k:qJ T s p=some q):ZA T p=some (t,q):=by
 obtain⟨b,q',h1,h2⟩:=WH k
 obtain⟨t',g1,g2,_,g3,_⟩:=Wj h1
 rw[h] at g1;cases g1
 rw[hs] at g2;subst g2
 rw[if_pos rfl] at h2;subst h2
 exact (g3 rfl).1
theorem uz {p q:PS} {k:Int} {t u:Tk} (h:zR T p=some u) (k1:XV T k p=some (t,q)) (z:q.e=0):t=u:=by
 obtain⟨v,p1,h1,h2,h3⟩:=WI k1
 rw[h] at h1;cases h1
 have ht:=qB h3
 by_cases c:u.kind=k
 ·rw[if_neg (by simp[c])] at h2;subst h2
  rw[h] at ht;exact (Option.some.inj ht.1).symm
 ·rw[if_pos c] at h2
  have hne:=Qa h2 (by decide)
  have hq:=ht.2
  rw[if_neg (fun x=>hne x.1)] at hq
  subst hq;exact absurd z hne
theorem LS {n N:Nat} {p:PS} (h:n≤N):U1 T (n=N) p=Z8 T n N p:=by
 unfold U1 Z8
 by_cases c:n=N
 ·rw[if_pos c,if_pos (by omega)]
 ·rw[if_neg c,if_neg (by omega)]
theorem FC {n M:Int} {p q:PS} (h:Z8 T n M p=some q) (z:q.e=0):n<M:=by
 unfold Z8 at h
 split at h
 ·exact absurd z (Qa h (by decide))
 ·omega
theorem Ke {n M:Int} {p:PS} (h:M≤n):Z8 T n M p=Za T 16 p:=by unfold Z8;rw[if_pos h]
theorem UO {n M:Int} {p q:PS} (h:n<M) (k:Z8 T n M p=some q):q=p:=by unfold Z8 at k;rw[if_neg (by omega)] at k;exact (Option.some.inj k).symm
theorem VI {e g:PM Nd} (he:Qc T (m+1) e g):Qc T m (X9 T e) (Yt T g):=by
 intro p B r q h
 unfold X9 at h
 have hi:=B.hi
 have hc:(40≤p.deep)=(p.deep=40):=propext ⟨fun h=>by omega,fun h=>by omega⟩
 simp only[hc,Option.bind_eq_some_iff] at h
 obtain⟨p1,h1,h⟩:=h
 unfold Yt
 rw[if_neg (by omega),h1];simp only[Option.bind_some]
 by_cases c:p1.e≠0
 ·rw[if_pos c] at h ⊢;cases h;exact⟨_,rfl,fun _=>rfl⟩
 ·rw[if_neg c] at h ⊢
  have h40:¬ p.deep=40:=fun x=>by
   rw[if_pos x] at h1
   exact c (Qa h1 (by decide))
  rw[if_neg h40] at h1;cases h1
  simp only[Option.bind_eq_some_iff,Prod.exists] at h
  obtain⟨x,p2,k2,h⟩:=h
  obtain⟨x',g1,g2⟩:=he _ (gC B (by omega)) _ _ k2
  rw[g1];simp only[Option.bind_some]
  split at h
  ·cases h
  ·rename_i c2
   cases h
   rw[if_neg c2]
   exact⟨x',rfl,fun z=>g2 z⟩
theorem D4 {G:PM Nd}:Qc T m (fun _=>none) G:=fun p B r q h=>by cases h
theorem Fo (hT:TOK T) {e g:PM Nd} (A:Tot T (m+1) e) (he:Qc T m (X9 T e) g):∀ (n:Nat) (nd nd':Nd) (p:PS),Bd T m p→(p.e=0→nd'=nd)→Hc (gF T e n nd p) (LM T g n nd' p)
 | 0,nd,nd',p,B,hn=>fun r q h=>by cases h
 | n+1,nd,nd',p,B,hn=>fun r q h=>by
  unfold gF at h
  simp only[Option.bind_eq_some_iff] at h
  obtain⟨t,k1,h⟩:=h
  by_cases c0:p.e=0
  rotate_left
  ·have ht:=Lk k1 c0
   subst ht
   rw[if_neg (by decide)] at h
   simp only[Option.bind_eq_some_iff] at h
   obtain⟨b,k2,h⟩:=h
   have hb:b=false:=by unfold Jn at k2;rw[k1] at k2;cases k2;rfl
   subst hb
   cases h
   exact⟨nd',by unfold LM;rw[if_neg c0],fun z=>absurd z c0⟩
  obtain rfl:=hn c0
  unfold LM
  rw[if_pos c0,k1];simp only[Option.bind_some]
  split at h
  ·rename_i c
   simp only[Option.bind_eq_some_iff,Prod.exists] at h
   obtain⟨u,a,k2,h⟩:=h
   obtain⟨g1,rfl⟩:=QD k1 (by omega) k2
   rw[if_pos c,g1];simp only[Option.bind_some]
   exact Fo hT A he n _ _ _ (B.next (qQ hT B.lt k2).1) (fun _=>rfl) _ _ h
  ·rename_i c
   simp only[Option.bind_eq_some_iff] at h
   obtain⟨b,k2,h⟩:=h
   obtain⟨u,hu,rfl⟩:=Wa k2
   rw[k1] at hu;cases hu
   rw[if_neg c]
   split at h
   ·rename_i cb
    simp only[Option.bind_eq_some_iff,Prod.exists] at h
    obtain⟨x,p1,k3,h⟩:=h
    rw[if_pos cb]
    unfold YW at k3
    simp only[Option.bind_eq_some_iff,Option.map_eq_some_iff,Prod.exists,Prod.mk.injEq] at k3
    obtain⟨p2,k4,y,p3,k5,p4,k6,rfl,rfl⟩:=k3
    have s1:=(qj hT B.lt k4).1
    have s2:=((qT hT A).st (B.next s1) k5).1
    have s3:=(qj hT s2.lt k6).1
    obtain⟨x',g2,e2⟩:=he _ (B.next s1) _ _ k5
    rw[vU k1 cb k4];simp only[Option.bind_some,g2,k6]
    exact Fo hT A he n _ _ _ (((B.next s1).next s2).next s3) (fun z=>by rw[e2 (s3.e0 z)]) _ _ h
   ·rename_i cb
    cases h
    rw[if_neg cb]
    exact⟨_,rfl,fun _=>rfl⟩
theorem ew (hT:TOK T) {e g:PM Nd} (A:Tot T (m+1) e) (he:Qc T m (X9 T e) g):Qc T m (b7 T e) (sO T g):=by
 intro p B r q h
 unfold b7 at h
 simp only[Option.bind_eq_some_iff,Prod.exists] at h
 obtain⟨t,p1,k1,h⟩:=h
 obtain⟨u,_,hu,_⟩:=WI k1
 unfold sO nY JP
 rw[hu,k1];simp only[Option.map_some,Option.bind_some]
 exact Fo hT A he _ _ _ _ (B.next (Xq hT B.lt (by decide) k1).1) (fun z=>by rw[uz hu k1 z]) _ _ h
theorem vT (hT:TOK T):∀ (n m:Nat),42≤m+n→Qc T m (X9 T (bU T n)) (Yt T (iO T n))
 | 0,m,h=>VI D4
 | n+1,m,h=>VI (ew hT (EN hT n (m+2) (by omega)) (vT hT n (m+1) (by omega)))
theorem wn (hT:TOK T) {e g:PM Nd} (A:Tot T (m+1) e) (he:Qc T m (X9 T e) g):∀ (n:Nat) (s:Tx) (b:Bool) (nd nd':Nd) (p0 p:PS),Xx T s p0=some (b,p)→Bd T m p0→(p.e=0→nd'=nd∧nd.kids.length≤4)→Hc (GX T e n b nd p) (BL T g n b nd' p0)
 | 0,s,b,nd,nd',p0,p,k0,B,hn=>fun r q h=>by cases h
 | n+1,s,b,nd,nd',p0,p,k0,B,hn=>fun r q h=>by
  obtain⟨t,h1,h2,h3,h4,h5⟩:=Wj k0
  unfold GX at h;unfold BL
  cases b with
  | false =>
   obtain rfl:=h5 rfl
   simp only[Bool.false_eq_true,false_and,if_false] at h ⊢
   cases h
   exact⟨_,rfl,fun z=>(hn z).1⟩
  | true =>
   have s0:=XA hT B.lt k0
   have e0:=(h4 rfl).2
   have ep:p.e=0:=by
    obtain⟨b',q',k',_,he',_⟩:=Vr hT B.lt s
    rw[k0] at k';cases k';exact he'.trans e0
   obtain⟨rfl,hl⟩:=hn ep
   rw[if_pos ⟨rfl,ep⟩] at h
   rw[if_pos ⟨rfl,e0⟩,(h4 rfl).1]
   simp only[Option.bind_eq_some_iff,Prod.exists] at h
   obtain⟨p1,k1,x,p2,k2,b2,p3,k3,h⟩:=h
   have B1:=(B.next s0).next (QE s0.lt k1)
   have s2:=((qT hT A).st B1 k2).1
   obtain⟨x',g2,e2⟩:=he _ B1 _ _ k2
   simp only[Option.bind_some]
   rw[LS hl,show Z8 T (nd'.kids.length:Int) ((4:Nat):Int) p=some p1 from k1]
   simp only[Option.bind_some,g2]
   obtain⟨_,_,_,g3,_⟩:=Wj k3
   rw[g3];simp only[Option.bind_some]
   have s3:=XA hT s2.lt k3
   exact wn hT A he n [44] b2 _ _ p2 p3 k3 (B1.next s2) (fun z=>⟨by rw[e2 (s3.e0 z)],by
    have:=FC k1 (s2.e0 (s3.e0 z))
    cases nd';simp[Nd.addKid,Nd.kids] at this ⊢;omega⟩) _ _ h
theorem cY (hT:TOK T) {e g:PM Nd} (A:Tot T (m+1) e) (he:Qc T m (X9 T e) g):Qc T m (FI T e) (wk T g):=by
 intro p B r q h
 unfold FI at h
 simp only[Option.bind_eq_some_iff,Prod.exists] at h
 obtain⟨t,p1,k1,b,p2,k2,h⟩:=h
 obtain⟨u,_,hu,_⟩:=WI k1
 have s1:=(Xq hT B.lt (by decide) k1).1
 have s2:=XA hT s1.lt k2
 obtain⟨_,_,_,g3,_,g5⟩:=Wj k2
 unfold wk nY JP
 rw[hu,k1];simp only[Option.map_some,Option.bind_some,g3]
 refine wn hT A he _ [111,102] b (zT 26 t.pos t.text []) _ p1 p2 k2 (B.next s1) (fun z=>⟨by rw[uz hu k1 (s2.e0 z)],by simp[zT,Nd.kids]⟩) _ _ ?_
 cases b with
 | true=>exact h
 | false=>exact h
theorem Dv (hT:TOK T):∀ (n:Nat) (nd nd':Nd) (p:PS),Bd T m p→(p.e=0→nd'=nd∧nd.names.length≤4)→Hc (Yx T n nd p) (Kc T n nd' p)
 | 0,nd,nd',p,B,hn=>fun r q h=>by cases h
 | n+1,nd,nd',p,B,hn=>fun r q h=>by
  unfold Yx at h;unfold Kc
  simp only[Option.bind_eq_some_iff] at h
  obtain⟨t,k1,h⟩:=h
  rw[k1];simp only[Option.bind_some]
  split at h
  ·rename_i c
   obtain⟨rfl,hl⟩:=hn (KW k1 (by omega))
   simp only[Option.bind_eq_some_iff,Prod.exists] at h
   obtain⟨p1,k2,u,p2,k3,h⟩:=h
   have s1:=QE B.lt k2
   have s2:=(qQ hT s1.lt k3).1
   rw[if_pos c]
   by_cases c4:nd'.names.length=4
   ·rw[Ke (by omega)] at k2
    have hne:=Qa k2 (by decide)
    have s3:=Hs hT n _ _ _ _ ((B.next s1).next s2) h
    rw[if_pos c4,k2]
    obtain rfl:=(s2.trans s3).err hne
    exact⟨_,rfl,fun z=>absurd z hne⟩
   ·obtain rfl:=UO (by omega) k2
    obtain⟨g1,rfl⟩:=QD k1 (by omega) k3
    rw[if_neg c4,g1];simp only[Option.bind_some]
    exact Dv hT n _ _ _ (B.next s2) (fun _=>⟨rfl,by cases nd';simp[Nd.addName,Nd.names] at c4 hl ⊢;omega⟩) _ _ h
  ·rename_i c
   cases h
   rw[if_neg c]
   exact⟨_,rfl,fun z=>(hn z).1⟩
theorem EP:∀ {n:Nat} {nd c:Nd},nd.kids.length<n→(nd.addKid c).kids.length≤n:=fun {n nd c} h=>by cases nd;simp[Nd.addKid,Nd.kids] at h ⊢;omega
theorem G2 (hT:TOK T) {e g:PM Nd} (A:Tot T (m+1) e) (he:Qc T m (X9 T e) g):∀ (n:Nat) (b:Bool) (nd nd':Nd) (p:PS),Bd T m p→(p.e=0→nd'=nd∧nd.kids.length≤20)→Hc (Wv T e n b nd p) (HA T g n b nd' p)
 | 0,b,nd,nd',p,B,hn=>fun r q h=>by cases h
 | n+1,b,nd,nd',p,B,hn=>fun r q h=>by
  unfold Wv at h;unfold HA
  by_cases c:b=true∧p.e=0
  ·obtain⟨rfl,hl⟩:=hn c.2
   rw[if_pos c] at h ⊢
   simp only[Option.bind_eq_some_iff,Prod.exists] at h
   obtain⟨p1,k1,x,p2,k2,b2,p3,k3,h⟩:=h
   have B1:=B.next (QE B.lt k1)
   have s2:=((La hT A).st B1 k2).1
   have s3:=XA hT s2.lt k3
   obtain⟨x',g2,e2⟩:=cY hT A he _ B1 _ _ k2
   rw[LS hl,show Z8 T (nd'.kids.length:Int) ((20:Nat):Int) p=some p1 from k1]
   simp only[Option.bind_some,g2,k3]
   exact G2 hT A he n b2 _ _ p3 ((B1.next s2).next s3) (fun z=>⟨by rw[e2 (s3.e0 z)],EP (by have:=FC k1 (s2.e0 (s3.e0 z));omega)⟩) _ _ h
  ·rw[if_neg c] at h ⊢
   cases h
   exact⟨_,rfl,fun z=>(hn z).1⟩
theorem Qi {t:Tk} {s:Tx}:isT t s=true↔(t.kind=5∨t.kind=6)∧t.text=s:=by
 unfold isT;simp
theorem Jp {t:Tk} {s:Tx} (h:¬ (t.kind=5∨t.kind=6)):¬ isT t s=true:=fun x=>h (Qi.1 x).1
theorem Gb {t:Tk} {s:Tx} (h:t.text≠s):¬ isT t s=true:=fun x=>h (Qi.1 x).2
theorem J8 {kinds:List (Int×Int)} {p q:PS} {r:Nd} {t:Tk} (hl:zR T p=some t) (k:Int) (hk:k≠0) (hf:((kinds.find? fun q=>q.1==t.kind).map (·.2)).getD 0=k) (h0:t.kind≠0) (h:Xs T kinds p=some (r,q)):YS T k p=some (r,q):=by
 unfold Xs at h
 rw[hl] at h
 simp only[Option.bind_some,hf] at h
 rw[if_neg hk] at h
 simp only[Option.map_eq_some_iff,Prod.exists,Prod.mk.injEq] at h
 obtain⟨u,a,h1,rfl,rfl⟩:=h
 obtain⟨g1,rfl⟩:=QD hl h0 h1
 unfold YS;rw[g1];rfl
theorem D3 {kinds:List (Int×Int)} {p q:PS} {r:Nd} {t:Tk} (hl:zR T p=some t) (hf:((kinds.find? fun q=>q.1==t.kind).map (·.2)).getD 0=0) (h:Xs T kinds p=some (r,q)):Za T 14 p=some q∧r=J9:=by
 unfold Xs at h
 rw[hl] at h
 simp only[Option.bind_some,hf,if_true,Option.map_eq_some_iff,Prod.mk.injEq] at h
 obtain⟨a,h1,rfl,rfl⟩:=h
 exact⟨h1,rfl⟩
theorem BD (hT:TOK T) {e g:PM Nd} (A:Tot T (m+1) e) (he:Qc T m (X9 T e) g):Qc T m (Yf T e) (KJ T g):=by
 intro p B r q h
 unfold Yf at h;unfold KJ
 simp only[Option.bind_eq_some_iff,Prod.exists] at h
 obtain⟨t,k1,b,p1,k2,h⟩:=h
 obtain⟨u,hu,h2,h3,h4,h5⟩:=Wj k2
 rw[k1] at hu;cases hu
 rw[k1];simp only[Option.bind_some]
 cases b with
 | true =>
  have hi:=Qi.1 h2
  have h56:t.kind≠1∧t.kind≠3∧t.kind≠4:=by omega
  rw[if_neg h56.1,if_neg h56.2.1,if_neg h56.2.2,if_pos h2,(h4 rfl).1]
  cases h
  exact⟨_,rfl,fun _=>rfl⟩
 | false =>
  obtain rfl:=h5 rfl
  simp only[Bool.false_eq_true,if_false,Option.bind_eq_some_iff] at h
  obtain⟨b,k3,h⟩:=h
  obtain⟨u,hu,rfl⟩:=Wa k3
  rw[k1] at hu;cases hu
  split at h
  ·rename_i cb
   have hi:=Qi.1 cb
   have h56:t.kind≠1∧t.kind≠3∧t.kind≠4:=by omega
   rw[if_neg h56.1,if_neg h56.2.1,if_neg h56.2.2,if_neg (by rw[h2];decide),if_pos cb]
   unfold YW at h
   simp only[Option.bind_eq_some_iff,Option.map_eq_some_iff,Prod.exists,Prod.mk.injEq] at h
   obtain⟨p2,k4,y,p3,k5,p4,k6,rfl,rfl⟩:=h
   have s1:=(qj hT B.lt k4).1
   have s2:=((qT hT A).st (B.next s1) k5).1
   have s3:=(qj hT s2.lt k6).1
   obtain⟨x',g2,e2⟩:=he _ (B.next s1) _ _ k5
   rw[vU k1 cb k4];simp only[Option.bind_some,g2,k6,Option.map_some]
   exact⟨_,rfl,fun z=>e2 (s3.e0 z)⟩
  ·rename_i cb
   by_cases c1:t.kind=1
   ·rw[if_pos c1,J8 k1 1 (by decide) (by rw[c1];rfl) (by omega) h];exact⟨_,rfl,fun _=>rfl⟩
   by_cases c3:t.kind=3
   ·rw[if_neg c1,if_pos c3,J8 k1 4 (by decide) (by rw[c3];rfl) (by omega) h];exact⟨_,rfl,fun _=>rfl⟩
   by_cases c4:t.kind=4
   ·rw[if_neg c1,if_neg c3,if_pos c4,J8 k1 5 (by decide) (by rw[c4];rfl) (by omega) h];exact⟨_,rfl,fun _=>rfl⟩
   obtain⟨f1,rfl⟩:=D3 k1 (by
    have a1:((1:Int)==t.kind)=false:=by simp;omega
    have a3:((3:Int)==t.kind)=false:=by simp;omega
    have a4:((4:Int)==t.kind)=false:=by simp;omega
    simp[List.find?_cons,a1,a3,a4]) h
   rw[if_neg c1,if_neg c3,if_neg c4,if_neg (by rw[h2];decide),if_neg cb,f1]
   exact⟨_,rfl,fun _=>rfl⟩
theorem jN (hT:TOK T) {e g:PM Nd} (A:Tot T (m+1) e) (he:Qc T m (X9 T e) g):∀ (n:Nat) (b:Bool) (nd nd':Nd) (p:PS),Bd T m p→(b=true→p.e=0→nd'=nd∧nd.kids.length≤4)→(p.e=0→nd'=nd)→Hc (WY T e n b nd p) (Ef T g n b nd' p)
 | 0,b,nd,nd',p,B,hn,hz=>fun r q h=>by cases h
 | n+1,false,nd,nd',p,B,hn,hz=>fun r q h=>by
  unfold WY at h;unfold Ef
  cases h;exact⟨_,rfl,hz⟩
 | n+1,true,nd,nd',p,B,hn,hz=>fun r q h=>by
  unfold WY at h;unfold Ef
  rw[if_pos rfl] at h ⊢
  simp only[Option.bind_eq_some_iff] at h
  obtain⟨b,k1,h⟩:=h
  rw[k1];simp only[Option.bind_some]
  cases b with
  | false=>cases h;exact⟨_,rfl,hz⟩
  | true =>
   have e0:p.e=0:=by
    obtain⟨b',hb',hx⟩:=Dd (T:=T) B.lt
    rw[k1] at hb';cases hb';exact hx rfl
   obtain⟨rfl,hl⟩:=hn rfl e0
   simp only[if_true,Option.bind_eq_some_iff,Prod.exists] at h ⊢
   obtain⟨p1,k2,x,p2,k3,h⟩:=h
   have s1:=QE B.lt k2
   have s2:=((XN hT A).st (B.next s1) k3).1
   by_cases c4:nd'.kids.length=4
   ·rw[Ke (by omega)] at k2
    have hne:=Qa k2 (by decide)
    have s3:=Kp hT A n _ _ _ _ _ ((B.next s1).next s2) h
    rw[if_pos c4,k2]
    obtain rfl:=(s2.trans s3).err hne
    exact⟨_,rfl,fun z=>absurd z hne⟩
   ·obtain rfl:=UO (by omega) k2
    obtain⟨x',g2,e2⟩:=BD hT A he _ B _ _ k3
    rw[if_neg c4,g2];simp only[Option.bind_some]
    exact jN hT A he n true _ _ _ (B.next s2) (fun _ z=>⟨by rw[e2 z],EP (by omega)⟩) (fun z=>by rw[e2 z]) _ _ h
theorem G9 {kinds:List (Int×Int)} {p q:PS} {r:Nd} (h:Xs T kinds p=some (r,q)):r.kids=[]:=by
 unfold Xs at h
 simp only[Option.bind_eq_some_iff] at h
 obtain⟨t,_,h⟩:=h
 split at h
 ·simp only[Option.map_eq_some_iff,Prod.mk.injEq] at h
  obtain⟨_,_,rfl,_⟩:=h;rfl
 ·simp only[Option.map_eq_some_iff,Prod.exists,Prod.mk.injEq] at h
  obtain⟨_,_,_,rfl,_⟩:=h;rfl
theorem nj (hT:TOK T) {e g:PM Nd} (A:Tot T (m+1) e) (he:Qc T m (X9 T e) g):Qc T m (Do T e) (mT T g):=by
 intro p B r q h
 unfold Do at h;unfold mT
 simp only[Option.bind_eq_some_iff,Prod.exists] at h
 obtain⟨t,k1,x,p1,k2,h⟩:=h
 have s1:=((XN hT A).st B k2).1
 obtain⟨x',g2,e2⟩:=BD hT A he _ B _ _ k2
 rw[k1];simp only[Option.bind_some,g2]
 refine jN hT A he _ _ _ _ _ (B.next s1) (fun hb z=>⟨e2 z,?_⟩) e2 _ _ h
 have hk:t.kind=4:=by simpa using hb
 have hx:x.kids=[]:=by
  unfold Yf at k2
  rw[k1] at k2
  have n1:isT t [95]=false:=by simp[isT,hk]
  have n2:isT t [40]=false:=by simp[isT,hk]
  simp only[Option.bind_some,Xx,Jn,k1,Option.map_some,n1,n2,Bool.false_eq_true,if_false] at k2
  exact G9 k2
 rw[hx];exact Nat.zero_le _
theorem L' (hT:TOK T):∀ (n m:Nat),42≤m+n→Qc T m (X9 T (Df T n)) (Yt T (bh T n))
 | 0,m,h=>VI D4
 | n+1,m,h=>VI (nj hT (YK hT n (m+2) (by omega)) (L' hT n (m+1) (by omega)))
end Go.AL
namespace Go.AL
variable {T:List Tk} {m:Nat}
theorem VP {e g:PM Nd} (he:Qc T m (X9 T e) g):Qc T m (Q7 T e) (QY g):=by
 intro p B r q h
 unfold Q7 at h;unfold QY
 simp only[Option.map_eq_some_iff,Prod.exists,Prod.mk.injEq] at h
 obtain⟨c,a,k,rfl,rfl⟩:=h
 obtain⟨x',g1,g2⟩:=he _ (EI B false) _ _ k
 rw[g1]
 exact⟨x',rfl,g2⟩
theorem xf (n a b:Nd):(n.addKids [a,b]).kids.length=n.kids.length+2:=by cases n;simp[Nd.addKids,Nd.kids]
theorem Ll (n a b:Nd):n.addKids [a,b]=(n.addKid a).addKid b:=by cases n;simp[Nd.addKids,Nd.addKid]
theorem wb (k:Nat):Int.tdiv ((2*k+1:Nat):Int) 2=(k:Int):=by
 show (((2*k+1) / 2:Nat):Int)=(k:Int)
 omega
theorem DW (hT:TOK T) {e pt g gp:PM Nd} (A:Tot T (m+1) e) (P:Tot T (m+1) pt) (he:Qc T m (X9 T e) g) (hp:Qc T m (X9 T pt) gp):∀ (n:Nat) (f b:Bool) (nd nd':Nd) (p:PS),Bd T m p→(if f=true then some true else Jn T [124] p)=some b→(p.e=0→nd'=nd∧∃ k,nd.kids.length=2*k+1∧k≤20)→Hc (XF T e pt n f nd p) (Ko T g gp n b nd' p)
 | 0,f,b,nd,nd',p,B,hb,hn=>fun r q h=>by cases h
 | n+1,f,b,nd,nd',p,B,hb,hn=>fun r q h=>by
  obtain⟨b',k0,h⟩:=Wc h
  rw[hb] at k0;cases k0
  unfold Ko
  rcases h with⟨rfl,rfl,rfl⟩ | ⟨rfl,c,w,p5,hr,h⟩
  ·rw[if_neg (by decide)]
   exact⟨_,rfl,fun z=>(hn z).1⟩
  rw[if_pos rfl]
  obtain⟨p1,p2,p3,p4,k1,k2,k3,k4,k5⟩:=hr.h
  have s1:=QE B.lt k1
  have s2:=(qj hT s1.lt k2).1
  have B2:=(B.next s1).next s2
  have s3:=((qT hT P).st B2 k3).1
  have s4:=(qj hT s3.lt k4).1
  have B4:=(B2.next s3).next s4
  have s5:=((qZ hT A).st B4 k5).1
  obtain⟨c',g3,e3⟩:=hp _ B2 _ _ k3
  obtain⟨w',g5,e5⟩:=VP he _ B4 _ _ k5
  obtain⟨b2,hb2,_⟩:=KE (T:=T) s5.lt [124]
  have hcap:U1 T (nd'.kids.length=41) p=some p1:=by
   by_cases e0:p.e=0
   ·obtain⟨rfl,k,hk,hl⟩:=hn e0
    unfold U1;unfold Z8 at k1
    rw[hk,wb k] at k1
    rw[hk]
    by_cases c20:k=20
    ·rw[if_pos (by omega)] at k1 ⊢;exact k1
    ·rw[if_neg (by omega)] at k1 ⊢;exact k1
   ·obtain rfl:=s1.err e0
    unfold U1
    split
    ·unfold Za;rw[if_neg e0]
    ·rfl
  rw[hcap];simp only[Option.bind_some,k2,g3,k4,g5,hb2]
  rw[Ll] at h
  refine DW hT A P he hp n false b2 _ _ p5 (B4.next s5) (by simpa using hb2) (fun z=>?_) _ _ h
  have z4:=s5.e0 z
  have z3:=s4.e0 z4
  have z0:=s1.e0 (s2.e0 (s3.e0 z3))
  obtain⟨rfl,k,hk,hl⟩:=hn z0
  refine⟨by rw[e3 z3,e5 z],k+1,by rw[←Ll,xf];omega,?_⟩
  have:=FC k1 (s2.e0 (s3.e0 z3))
  rw[hk,wb] at this;omega
theorem yZ (hT:TOK T) {e pt g gp:PM Nd} (A:Tot T (m+1) e) (P:Tot T (m+1) pt) (he:Qc T m (X9 T e) g) (hp:Qc T m (X9 T pt) gp) {p:PS} (B:Bd T m p) {t:Tk} (hl:zR T p=some t) (hk:t.kind≠0) :
  Hc (Jr T e pt p) ((ZA T p).bind fun r=>(QY g r.2).bind fun q=>(qJ T [119,105,116,104] q.2).bind fun p1=>D5 T g gp t.pos q.1 p1):=by
 intro r q h
 unfold Jr at h
 simp only[Option.bind_eq_some_iff,Option.map_eq_some_iff,Prod.exists,Prod.mk.injEq] at h
 obtain⟨t1,a1,k1,w1,a2,k2,a3,k3,n1,a4,k4,a5,k5,rfl,rfl⟩:=h
 obtain⟨g1,rfl⟩:=QD hl hk k1
 have s1:=(qQ hT B.lt k1).1
 have s2:=((qZ hT A).st (B.next s1) k2).1
 have s3:=(qj hT s2.lt k3).1
 have C1:=((B.next s1).next s2).next s3
 have s4:=JK hT A P _ _ _ _ _ _ C1 k4
 have s5:=(qj hT s4.lt k5).1
 obtain⟨w',g2,e2⟩:=VP he _ (B.next s1) _ _ k2
 unfold D5
 rw[g1];simp only[Option.bind_some,g2,k3]
 obtain⟨n',g4,e4⟩:=DW hT A P he hp _ true true _ (zT 11 t1.pos [] [w']) a3 C1 rfl (fun z=>⟨by rw[e2 (s3.e0 z)],0,by simp[zT,Nd.kids],by omega⟩) _ _ k4
 rw[g4];simp only[Option.bind_some,k5,Option.map_some]
 exact⟨_,rfl,fun z=>e4 (s5.e0 z)⟩
theorem bl (hT:TOK T) {e g:PM Nd} (A:Tot T (m+1) e) (he:Qc T m (X9 T e) g) {p:PS} (B:Bd T m p) {t:Tk} (hl:zR T p=some t) (hk:t.kind≠0) :
  Hc (EA T e p) ((ZA T p).bind fun r=>(QY g r.2).bind fun q=>(qJ T [119,105,116,104] q.2).bind fun p1=>gw T g t.pos q.1 p1):=by
 intro r q h
 unfold EA at h
 simp only[Option.bind_eq_some_iff,Option.map_eq_some_iff,Prod.exists,Prod.mk.injEq] at h
 obtain⟨t1,a1,k1,w1,a2,k2,a3,k3,u,a4,k4,a5,k5,v,a6,k6,a7,k7,rfl,rfl⟩:=h
 obtain⟨g1,rfl⟩:=QD hl hk k1
 have s1:=(qQ hT B.lt k1).1
 have s2:=((qZ hT A).st (B.next s1) k2).1
 have s3:=(qj hT s2.lt k3).1
 have s4:=(Xq hT s3.lt (by decide) k4).1
 have s5:=(qj hT s4.lt k5).1
 have C1:=((((B.next s1).next s2).next s3).next s4).next s5
 have s6:=((qZ hT A).st C1 k6).1
 have s7:=(qj hT s6.lt k7).1
 obtain⟨w',g2,e2⟩:=VP he _ (B.next s1) _ _ k2
 obtain⟨v',g6,e6⟩:=VP he _ C1 _ _ k6
 unfold gw JP
 rw[g1];simp only[Option.bind_some,g2,k3,k4,Option.map_some,k5,g6,k7]
 exact⟨_,rfl,fun z=>by
  have z6:=s7.e0 z
  rw[e6 z6,e2 (s3.e0 (s4.e0 (s5.e0 (s6.e0 z6))))]⟩
theorem Vy (hT:TOK T) {e pt g gp:PM Nd} (A:Tot T (m+1) e) (P:Tot T (m+1) pt) (he:Qc T m (X9 T e) g) (hp:Qc T m (X9 T pt) gp):Qc T m (Xz T e pt) (YU T g gp):=by
 intro p B r q h
 unfold Xz at h;unfold YU
 simp only[Option.bind_eq_some_iff] at h
 obtain⟨t,k1,h⟩:=h
 rw[k1];simp only[Option.bind_some]
 by_cases c5:t.kind=5∨t.kind=6
 ·rw[if_neg (show ¬ t.kind=1 by omega),if_neg (show ¬ t.kind=2 by omega),if_neg (show ¬ t.kind=3 by omega),if_neg (show ¬ t.kind=4 by omega)]
  have hk:t.kind≠0:=by omega
  split at h
  ·rename_i c
   have hx:=(Qi.1 c).2
   rw[if_neg (Gb (by rw[hx];decide)),if_neg (Gb (by rw[hx];decide)),if_neg (Gb (by rw[hx];decide)),if_pos c]
   exact yZ hT A P he hp B k1 hk _ _ h
  rename_i cm
  split at h
  ·rename_i c
   have hx:=(Qi.1 c).2
   rw[if_neg (Gb (by rw[hx];decide)),if_neg (Gb (by rw[hx];decide)),if_pos c]
   exact bl hT A he B k1 hk _ _ h
  rename_i ct
  split at h
  ·rename_i c
   simp only[Option.map_eq_some_iff,Prod.exists,Prod.mk.injEq] at h
   obtain⟨u,a,k2,rfl,rfl⟩:=h
   rw[if_pos c,(QD k1 hk k2).1]
   exact⟨_,rfl,fun _=>rfl⟩
  rename_i cr
  split at h
  ·rename_i c
   simp only[Option.bind_eq_some_iff,Prod.exists] at h
   obtain⟨u,p1,k2,b,p2,k3,h⟩:=h
   have s1:=(qQ hT B.lt k2).1
   have s2:=XA hT s1.lt k3
   rw[if_neg cr,if_pos c,(QD k1 hk k2).1]
   simp only[Option.bind_some,k3]
   split at h
   ·rename_i cb
    cases h
    rw[if_pos cb];exact⟨_,rfl,fun _=>rfl⟩
   ·rename_i cb
    simp only[Option.bind_eq_some_iff,Option.map_eq_some_iff,Prod.exists,Prod.mk.injEq] at h
    obtain⟨v,p3,k4,p4,k5,rfl,rfl⟩:=h
    have C:=(B.next s1).next s2
    have s3:=((qZ hT A).st C k4).1
    have s4:=(qj hT s3.lt k5).1
    obtain⟨v',g4,e4⟩:=VP he _ C _ _ k4
    rw[if_neg cb];simp only[g4,Option.bind_some,k5,Option.map_some]
    exact⟨_,rfl,fun z=>e4 (s4.e0 z)⟩
  ·rename_i cp
   obtain⟨f1,rfl⟩:=D3 k1 (by
    have a1:((1:Int)==t.kind)=false:=by simp;omega
    have a2:((2:Int)==t.kind)=false:=by simp;omega
    have a3:((3:Int)==t.kind)=false:=by simp;omega
    have a4:((4:Int)==t.kind)=false:=by simp;omega
    simp[List.find?_cons,a1,a2,a3,a4]) h
   rw[if_neg cr,if_neg cp,if_neg ct,if_neg cm,f1]
   exact⟨_,rfl,fun _=>rfl⟩
 ·rw[if_neg (Jp c5),if_neg (Jp c5),if_neg (Jp c5),if_neg (Jp c5)] at h
  by_cases c1:t.kind=1
  ·rw[if_pos c1,J8 k1 1 (by decide) (by rw[c1];rfl) (by omega) h];exact⟨_,rfl,fun _=>rfl⟩
  by_cases c2:t.kind=2
  ·rw[if_neg c1,if_pos c2,J8 k1 2 (by decide) (by rw[c2];rfl) (by omega) h];exact⟨_,rfl,fun _=>rfl⟩
  by_cases c3:t.kind=3
  ·rw[if_neg c1,if_neg c2,if_pos c3,J8 k1 4 (by decide) (by rw[c3];rfl) (by omega) h];exact⟨_,rfl,fun _=>rfl⟩
  by_cases c4:t.kind=4
  ·rw[if_neg c1,if_neg c2,if_neg c3,if_pos c4,J8 k1 5 (by decide) (by rw[c4];rfl) (by omega) h];exact⟨_,rfl,fun _=>rfl⟩
  obtain⟨f1,rfl⟩:=D3 k1 (by
   have a1:((1:Int)==t.kind)=false:=by simp;omega
   have a2:((2:Int)==t.kind)=false:=by simp;omega
   have a3:((3:Int)==t.kind)=false:=by simp;omega
   have a4:((4:Int)==t.kind)=false:=by simp;omega
   simp[List.find?_cons,a1,a2,a3,a4]) h
  rw[if_neg c1,if_neg c2,if_neg c3,if_neg c4,if_neg (Jp c5),if_neg (Jp c5),if_neg (Jp c5),if_neg (Jp c5),f1]
  exact⟨_,rfl,fun _=>rfl⟩
theorem Bi {s:Tx} (h:0<(Qm s).1):s∈keysL∧((Qm s).2=1∨(Qm s).2=2):=by
 unfold Qm at h ⊢
 repeat' split at h
 all_goals first
  | (exfalso;revert h;decide)
  | (subst_vars;decide)
theorem mq (hK:TKS T) {p:PS} {t:Tk} (h:zR T p=some t):(t.kind=6∧0<(Qm t.text).1)↔0<(YD t).1:=by
 unfold YD
 by_cases c:t.kind=6
 ·rw[if_pos (.inr c)];simp[c]
 ·by_cases c5:t.kind=5
  ·rw[if_pos (.inl c5)]
   have:=hK.sgn t (DN h (by omega)) c5
   refine⟨fun x=>absurd x.1 c,fun x=>absurd (Bi x).1 this⟩
  ·rw[if_neg (by omega)]
   exact⟨fun x=>absurd x.1 c,fun x=>absurd x (by decide)⟩
theorem Dn (hT:TOK T) {e pt g gp:PM Nd} (A:Tot T (m+1) e) (P:Tot T (m+1) pt) (he:Qc T m (X9 T e) g) (hp:Qc T m (X9 T pt) gp):∀ (n:Nat) (b:Bool) (nd nd':Nd) (p:PS),Bd T m p→(b=true→p.e=0→nd.kids.length≤4)→(p.e=0→nd'=nd)→Hc (JY T e pt n b nd p) (WL T g gp n b nd' p)
 | 0,b,nd,nd',p,B,hn,hz=>fun r q h=>by cases h
 | n+1,b,nd,nd',p,B,hn,hz=>fun r q h=>by
  unfold JY at h;unfold WL
  simp only[Option.bind_eq_some_iff] at h
  obtain⟨t,k1,h⟩:=h
  rw[k1];simp only[Option.bind_some]
  split at h
  rotate_left
  ·rename_i c;cases h;rw[if_neg c];exact⟨_,rfl,hz⟩
  rename_i c
  rw[if_pos c]
  have hk:t.kind≠0:=fun x=>by
   unfold ZD isT at c;rw[x] at c;revert c;simp
  have e0:=KW k1 hk
  obtain rfl:=hz e0
  cases b with
  | true =>
   simp only[if_true,Option.bind_eq_some_iff,Prod.exists] at h ⊢
   obtain⟨p1,k2,x,p2,k3,h⟩:=h
   have s1:=QE B.lt k2
   have s2:=((Zo hT A P).st (B.next s1) k3).1
   have hl:=hn rfl e0
   by_cases c4:nd'.kids.length=4
   ·rw[Ke (by omega)] at k2
    have hne:=Qa k2 (by decide)
    have s3:=Ja hT A P n _ _ _ _ _ ((B.next s1).next s2) h
    rw[if_pos c4,k2]
    obtain rfl:=(s2.trans s3).err hne
    exact⟨_,rfl,fun z=>absurd z hne⟩
   ·obtain rfl:=UO (by omega) k2
    obtain⟨x',g2,e2⟩:=Vy hT A P he hp _ B _ _ k3
    rw[if_neg c4,g2];simp only[Option.bind_some]
    exact Dn hT A P he hp n true _ _ _ (B.next s2) (fun _ z=>EP (by omega)) (fun z=>by rw[e2 z]) _ _ h
  | false =>
   simp only[Bool.false_eq_true,if_false] at h ⊢
   simp only[Option.bind_eq_some_iff,Prod.exists] at h
   obtain⟨x,p2,k3,h⟩:=h
   have s2:=((Zo hT A P).st B k3).1
   obtain⟨x',g2,e2⟩:=Vy hT A P he hp _ B _ _ k3
   rw[g2];simp only[Option.bind_some]
   exact Dn hT A P he hp n false _ _ _ (B.next s2) (fun hb=>by cases hb) (fun z=>by rw[e2 z]) _ _ h
theorem xT {e pt:PM Nd} {p q:PS} {x:Nd} {t:Tk} (hl:zR T p=some t) (h4:t.kind=4) (h:Xz T e pt p=some (x,q)):x.kids=[]:=by
 unfold Xz at h
 rw[hl] at h
 have c5:¬ (t.kind=5∨t.kind=6):=by omega
 simp only[Option.bind_some] at h
 rw[if_neg (Jp c5),if_neg (Jp c5),if_neg (Jp c5),if_neg (Jp c5)] at h
 exact G9 h
theorem cX (hK:TKS T) {e pt g gp:PM Nd} (A:Tot T (m+1) e) (P:Tot T (m+1) pt) (he:Qc T m (X9 T e) g) (hp:Qc T m (X9 T pt) gp):Qc T m (Hl T e pt) (ji T g gp):=by
 have hT:=hK.tok
 intro p B r q h
 unfold Hl at h;unfold ji
 simp only[Option.bind_eq_some_iff] at h
 obtain⟨t,k1,h⟩:=h
 rw[k1];simp only[Option.bind_some]
 have hkr:=mq hK k1
 by_cases c:t.kind=6∧0<(Qm t.text).1
 ·rw[if_pos c] at h;rw[if_pos (hkr.1 c)]
  have hkk:YD t=Qm t.text:=by unfold YD;rw[if_pos (.inr c.1)]
  rw[hkk]
  simp only[Option.bind_eq_some_iff,Prod.exists] at h
  obtain⟨u,p1,k2,h⟩:=h
  obtain⟨g2,rfl⟩:=QD k1 (by omega) k2
  have s1:=(qQ hT B.lt k2).1
  rw[g2];simp only[Option.bind_some]
  rcases (Bi c.2).2 with h1 | h2
  ·rw[h1] at h ⊢
   simp only[show (1:Int).toNat=0+1 from rfl,XS,Option.bind_eq_some_iff,Prod.exists] at h
   obtain⟨x,p2,k3,h⟩:=h
   cases h
   obtain⟨x',g3,e3⟩:=Vy hT A P he hp _ (B.next s1) _ _ k3
   rw[g3];simp only[Option.bind_some]
   rw[if_neg (by decide)]
   exact⟨_,rfl,fun z=>by rw[e3 z];rfl⟩
  ·rw[h2] at h ⊢
   simp only[show (2:Int).toNat=0+1+1 from rfl,XS,Option.bind_eq_some_iff,Prod.exists] at h
   obtain⟨x,p2,k3,y,p3,k4,h⟩:=h
   cases h
   have s2:=((Zo hT A P).st (B.next s1) k3).1
   have s3:=((Zo hT A P).st ((B.next s1).next s2) k4).1
   obtain⟨x',g3,e3⟩:=Vy hT A P he hp _ (B.next s1) _ _ k3
   obtain⟨y',g4,e4⟩:=Vy hT A P he hp _ ((B.next s1).next s2) _ _ k4
   rw[g3];simp only[Option.bind_some]
   simp only[if_true,g4,Option.map_some]
   exact⟨_,rfl,fun z=>by rw[e3 (s3.e0 z),e4 z];rfl⟩
 ·rw[if_neg c] at h;rw[if_neg (fun x=>c (hkr.2 x))]
  simp only[Option.bind_eq_some_iff,Prod.exists] at h
  obtain⟨x,p1,k2,h⟩:=h
  have s1:=((Zo hT A P).st B k2).1
  obtain⟨x',g2,e2⟩:=Vy hT A P he hp _ B _ _ k2
  rw[g2];simp only[Option.bind_some]
  exact Dn hT A P he hp _ _ _ _ _ (B.next s1) (fun hb z=>by rw[xT k1 (by simpa using hb) k2];exact Nat.zero_le _) e2 _ _ h
theorem oJ (hK:TKS T) {p:PS} {t:Tk} (h:zR T p=some t) {a b c:Tx} (ha:a ∉ keysL∧a≠[]) (hb:b ∉ keysL∧b≠[]) (hc:c ∉ keysL∧c≠[]):(Ky t a b c≠[]↔t.kind=5∧t.text∈[a,b,c])∧(t.kind=5∧t.text∈[a,b,c]→Ky t a b c=t.text):=by
 have key:t.kind=6→t.text∈keysL:=fun h6=>hK.key t (DN h (by omega)) h6
 unfold Ky isT
 by_cases h5:t.kind=5
 ·simp only[h5,BEq.rfl,Bool.true_or,Bool.true_and,beq_iff_eq,List.mem_cons,List.not_mem_nil,or_false,true_and]
  by_cases c1:t.text=a
  ·simp[c1,ha.2]
  by_cases c2:t.text=b
  ·simp[c1,c2,hb.2];split <;> simp_all
  by_cases c3:t.text=c
  ·simp[c1,c2,c3,hc.2];split <;> (try split) <;> simp_all
  ·simp[c1,c2,c3]
 ·by_cases h6:t.kind=6
  ·have hk:=key h6
   have n1:(t.text==a)=false:=by simp;rintro rfl;exact ha.1 hk
   have n2:(t.text==b)=false:=by simp;rintro rfl;exact hb.1 hk
   have n3:(t.text==c)=false:=by simp;rintro rfl;exact hc.1 hk
   simp[n1,n2,n3,h5]
  ·have q5:(t.kind==5)=false:=by simp[h5]
   have q6:(t.kind==6)=false:=by simp[h6]
   simp[q5,q6,h5]
theorem Bg (hK:TKS T) {f g:PM Nd} (A:Tot T m f) (hf:Qc T m f g) {a b c:Tx} (ha:a ∉ keysL∧a≠[]) (hb:b ∉ keysL∧b≠[]) (hc:c ∉ keysL∧c≠[]):∀ (n:Nat) (t:Tk) (nd nd':Nd) (p:PS),Bd T m p→zR T p=some t→(p.e=0→nd'=nd)→Hc (Ji T f [a,b,c] n t nd p) (V5 T g a b c n nd' p)
 | 0,t,nd,nd',p,B,hl,hn=>fun r q h=>by cases h
 | n+1,t,nd,nd',p,B,hl,hn=>fun r q h=>by
  have ho:=oJ hK hl ha hb hc
  unfold Ji at h;unfold V5
  rw[hl];simp only[Option.bind_some]
  by_cases cc:t.kind=5∧t.text∈[a,b,c]
  ·rw[if_pos cc] at h;rw[if_pos (ho.1.2 cc),ho.2 cc]
   simp only[Option.bind_eq_some_iff,Prod.exists] at h
   obtain⟨u,p1,k1,x,p2,k2,t',k3,h⟩:=h
   obtain⟨g1,rfl⟩:=QD hl (by omega) k1
   have s1:=(qQ hK.tok B.lt k1).1
   have s2:=(A.st (B.next s1) k2).1
   obtain⟨x',g2,e2⟩:=hf _ (B.next s1) _ _ k2
   obtain rfl:=hn (KW hl (by omega))
   rw[g1];simp only[Option.bind_some,g2]
   exact Bg hK A hf ha hb hc n t' _ _ p2 ((B.next s1).next s2) k3 (fun z=>by rw[e2 z]) _ _ h
  ·rw[if_neg cc] at h;rw[if_neg (fun x=>cc (ho.1.1 x))]
   cases h;exact⟨_,rfl,hn⟩
theorem LE (hK:TKS T) {f g:PM Nd} (A:Tot T m f) (hf:Qc T m f g) {a b c:Tx} (ha:a ∉ keysL∧a≠[]) (hb:b ∉ keysL∧b≠[]) (hc:c ∉ keysL∧c≠[]):Qc T m (JQ T f [a,b,c]) (H' T g a b c):=by
 intro p B r q h
 unfold JQ at h;unfold H'
 simp only[Option.bind_eq_some_iff,Prod.exists] at h
 obtain⟨x,p1,k1,t,k2,h⟩:=h
 obtain⟨x',g1,e1⟩:=hf _ B _ _ k1
 rw[g1];simp only[Option.bind_some]
 exact Bg hK A hf ha hb hc _ t _ _ p1 (B.next (A.st B k1).1) k2 e1 _ _ h
theorem ue (hK:TKS T) {e pt g gp:PM Nd} (A:Tot T (m+1) e) (P:Tot T (m+1) pt) (he:Qc T m (X9 T e) g) (hp:Qc T m (X9 T pt) gp):Qc T m (GS T e pt) (dR T g gp) :=
 LE hK (Vz hK.tok (Y' hK.tok A P)) (LE hK (Y' hK.tok A P) (cX hK A P he hp) (by decide) (by decide) (by decide)) (by decide) (by decide) (by decide)
theorem n9 (hK:TKS T) {e pt g gp:PM Nd} (A:Tot T (m+1) e) (P:Tot T (m+1) pt) (he:Qc T m (X9 T e) g) (hp:Qc T m (X9 T pt) gp):Qc T m (Hx T e pt) (DD T g gp):=by
 have hT:=hK.tok
 intro p B r q h
 unfold Hx at h;unfold DD
 simp only[Option.bind_eq_some_iff,Prod.exists] at h
 obtain⟨x,p1,k1,t,k2,h⟩:=h
 obtain⟨x',g1,e1⟩:=ue hK A P he hp _ B _ _ k1
 have s1:=((JH hT A P).st B k1).1
 rw[g1];simp only[Option.bind_some,k2]
 have ho:(isT t [61]=true∨isT t [60]=true↔Ky t [61] [60] [61]≠[])∧(isT t [61]=true∨isT t [60]=true→Ky t [61] [60] [61]=t.text):=by
  unfold Ky
  by_cases c1:isT t [61]=true
  ·rw[if_pos c1];exact⟨⟨fun _=>by decide,fun _ =>.inl c1⟩,fun _=>(Qi.1 c1).2.symm⟩
  ·rw[if_neg c1]
   by_cases c2:isT t [60]=true
   ·rw[if_pos c2];exact⟨⟨fun _=>by decide,fun _ =>.inr c2⟩,fun _=>(Qi.1 c2).2.symm⟩
   ·rw[if_neg c2,if_neg c1];exact⟨⟨fun x=>absurd x (by simp[c1,c2]),fun x=>absurd rfl x⟩,fun x=>absurd x (by simp[c1,c2])⟩
 by_cases c:isT t [61]=true∨isT t [60]=true
 ·rw[if_pos c] at h;rw[if_pos (ho.1.1 c),ho.2 c]
  simp only[Option.bind_eq_some_iff,Option.map_eq_some_iff,Prod.exists,Prod.mk.injEq] at h
  obtain⟨u,p2,k3,y,p3,k4,rfl,rfl⟩:=h
  have hk:t.kind≠0:=c.elim QV QV
  have s2:=(qQ hT s1.lt k3).1
  have B2:=(B.next s1).next s2
  have s3:=((JH hT A P).st B2 k4).1
  obtain⟨y',g4,e4⟩:=ue hK A P he hp _ B2 _ _ k4
  rw[(QD k2 hk k3).1];simp only[Option.bind_some,g4,Option.map_some]
  exact⟨_,rfl,fun z=>by rw[e4 z,e1 (s2.e0 (s3.e0 z))]⟩
 ·rw[if_neg c] at h;rw[if_neg (fun x=>c (ho.1.2 x))]
  cases h;exact⟨_,rfl,e1⟩
theorem BC (hT:TOK T) {e g:PM Nd} (A:Tot T (m+1) e) (he:Qc T m (X9 T e) g) {p q:PS} {x:Tx} {rc:Bool} {v:Nd} (B:Bd T m p) (h:Ye T e p=some ((x,rc,v),q)):∃ v',Vt T g p=some ((x,rc,v'),q)∧(q.e=0→v'=v):=by
 obtain⟨p1,t,p2,p3,p4,k1,k2,rfl,k3,k4,k5⟩:=Ka h
 have s1:=XA hT B.lt k1
 obtain⟨s2,_⟩:=Xq hT s1.lt (by decide) k2
 have s3:=(qj hT s2.lt k3).1
 have s4:=FG s3.lt k4
 have C:=(((B.next s1).next s2).next s3).next s4
 obtain⟨v',g5,e5⟩:=he _ C _ _ k5
 obtain⟨f,kf,_⟩:=KE (T:=T) s3.lt [102,117,110]
 have hrec:(if rc=true∧¬ f=true∧p3.deep<40 then Za T 14 p3 else some p3)=some p4:=by
  by_cases c1:rc=true∧p3.deep<40
  ·rw[if_pos c1,kf] at k4
   simp only[Option.bind_some] at k4
   cases f with
   | true=>rw[if_neg (by simp)];simpa using k4
   | false=>rw[if_pos ⟨c1.1,by simp,c1.2⟩];simpa using k4
  ·rw[if_neg c1] at k4
   rw[if_neg (fun x=>c1 ⟨x.1,x.2.2⟩)];exact k4
 unfold Vt JP
 rw[k1];simp only[Option.bind_some,k2,Option.map_some,k3,kf]
 rw[hrec];simp only[Option.bind_some,g5,Option.map_some]
 exact⟨_,rfl,e5⟩
theorem AN (hK:TKS T) {p:PS} {t:Tk} (h:zR T p=some t) {s:Tx} (hs:s∈keysL):(t.kind=6∧t.text=s)↔isT t s=true:=by
 rw[Qi]
 refine⟨fun x=>⟨.inr x.1,x.2⟩,fun x=>?_⟩
 rcases x.1 with h5 | h6
 ·exact absurd (x.2▸hs) (hK.sgn t (DN h (by omega)) h5)
 ·exact⟨h6,x.2⟩
theorem xb (hK:TKS T) {e pt g gp:PM Nd} (A:Tot T (m+1) e) (P:Tot T (m+1) pt) (he:Qc T m (X9 T e) g) (hp:Qc T m (X9 T pt) gp):Qc T m (UJ T e pt) (DU T g gp):=by
 have hT:=hK.tok
 intro p B r q h
 unfold UJ at h;unfold DU
 simp only[Option.bind_eq_some_iff] at h
 obtain⟨t,k0,h⟩:=h
 rw[k0];simp only[Option.bind_some]
 have i1:=AN hK k0 (s:=[108,101,116]) (by decide)
 have i2:=AN hK k0 (s:=[102,117,110]) (by decide)
 have i3:=AN hK k0 (s:=[105,102]) (by decide)
 by_cases c1:t.kind=6∧t.text=[108,101,116]
 ·rw[if_pos c1] at h;rw[if_pos (i1.1 c1)]
  unfold GE at h
  simp only[Option.bind_eq_some_iff,Option.map_eq_some_iff,Prod.exists,Prod.mk.injEq] at h
  obtain⟨u,p1,k1,x,rc,v,p2,k2,p3,k3,w,p4,k4,rfl,rfl⟩:=h
  obtain⟨g1,rfl⟩:=QD k0 (by omega) k1
  have s1:=(qQ hT B.lt k1).1
  have s2:=(UW hT A (B.next s1) k2).1
  have s3:=(qj hT s2.lt k3).1
  have C:=((B.next s1).next s2).next s3
  have s4:=((qT hT A).st C k4).1
  obtain⟨v',g2,e2⟩:=BC hT A he (B.next s1) k2
  obtain⟨w',g4,e4⟩:=he _ C _ _ k4
  rw[g1];simp only[Option.bind_some,g2,k3,g4,Option.map_some]
  exact⟨_,rfl,fun z=>by rw[e4 z,e2 (s3.e0 (s4.e0 z))]⟩
 rw[if_neg c1] at h;rw[if_neg (fun x=>c1 (i1.2 x))]
 by_cases c2:t.kind=6∧t.text=[102,117,110]
 ·rw[if_pos c2] at h;rw[if_pos (i2.1 c2)]
  unfold GO at h
  simp only[Option.bind_eq_some_iff,Option.map_eq_some_iff,Prod.exists,Prod.mk.injEq] at h
  obtain⟨u,p1,k1,x,p2,k2,p3,k3,w,p4,k4,rfl,rfl⟩:=h
  obtain⟨g1,rfl⟩:=QD k0 (by omega) k1
  have s1:=(qQ hT B.lt k1).1
  have s2:=(Xq hT s1.lt (by decide) k2).1
  have s3:=(qj hT s2.lt k3).1
  have C:=((B.next s1).next s2).next s3
  obtain⟨w',g4,e4⟩:=he _ C _ _ k4
  unfold JP
  rw[g1];simp only[Option.bind_some,k2,k3,g4,Option.map_some]
  exact⟨_,rfl,fun z=>by rw[e4 z]⟩
 rw[if_neg c2] at h;rw[if_neg (fun x=>c2 (i2.2 x))]
 by_cases c3:t.kind=6∧t.text=[105,102]
 ·rw[if_pos c3] at h;rw[if_pos (i3.1 c3)]
  unfold Jf at h
  simp only[Option.bind_eq_some_iff,Option.map_eq_some_iff,Prod.exists,Prod.mk.injEq] at h
  obtain⟨u,p1,k1,x,p2,k2,p3,k3,y,p4,k4,p5,k5,w,p6,k6,rfl,rfl⟩:=h
  obtain⟨g1,rfl⟩:=QD k0 (by omega) k1
  have s1:=(qQ hT B.lt k1).1
  have s2:=((qT hT A).st (B.next s1) k2).1
  have s3:=(qj hT s2.lt k3).1
  have C:=((B.next s1).next s2).next s3
  have s4:=((qT hT A).st C k4).1
  have s5:=(qj hT s4.lt k5).1
  have D:=(C.next s4).next s5
  have s6:=((qT hT A).st D k6).1
  obtain⟨x',g2,e2⟩:=he _ (B.next s1) _ _ k2
  obtain⟨y',g4,e4⟩:=he _ C _ _ k4
  obtain⟨w',g6,e6⟩:=he _ D _ _ k6
  rw[g1];simp only[Option.bind_some,g2,k3,g4,k5,g6,Option.map_some]
  exact⟨_,rfl,fun z=>by
   have z4:=s5.e0 (s6.e0 z)
   rw[e6 z,e4 z4,e2 (s3.e0 (s4.e0 z4))]⟩
 rw[if_neg c3] at h;rw[if_neg (fun x=>c3 (i3.2 x))]
 simp only[Option.bind_eq_some_iff,Prod.exists] at h
 obtain⟨x,p1,k1,b,p2,k2,h⟩:=h
 have s1:=((UD hT A P).st B k1).1
 obtain⟨x',g1,e1⟩:=n9 hK A P he hp _ B _ _ k1
 rw[g1];simp only[Option.bind_some]
 by_cases cf:p1.flat=true
 ·rw[if_pos cf] at k2;cases k2
  obtain⟨b,kb,_⟩:=KE (T:=T) s1.lt [59]
  rw[kb];simp only[Option.bind_some]
  rw[if_neg (by simp[cf])]
  cases h;exact⟨_,rfl,e1⟩
 ·rw[if_neg cf] at k2
  obtain⟨_,_,_,g2,g3,g4⟩:=Wj k2
  rw[g2];simp only[Option.bind_some]
  have s2:=XA hT s1.lt k2
  cases b with
  | true =>
   simp only[if_true,Option.map_eq_some_iff,Prod.exists,Prod.mk.injEq] at h
   obtain⟨w,p3,k3,rfl,rfl⟩:=h
   have C:=(B.next s1).next s2
   have s3:=((qT hT A).st C k3).1
   obtain⟨w',g5,e5⟩:=he _ C _ _ k3
   rw[if_pos ⟨rfl,cf⟩,(g3 rfl).1];simp only[Option.bind_some,g5,Option.map_some]
   exact⟨_,rfl,fun z=>by rw[e5 z,e1 (s2.e0 (s3.e0 z))]⟩
  | false =>
   obtain rfl:=g4 rfl
   rw[if_neg (by simp)]
   cases h;exact⟨_,rfl,e1⟩
theorem jT (hK:TKS T):∀ (n m:Nat),42≤m+n→Qc T m (X9 T (Wx T n)) (Yt T (nF T n))
 | 0,m,h=>VI D4
 | n+1,m,h=>VI (xb hK (YI hK.tok n (m+2) (by omega)) (YK hK.tok (n+1) (m+2) (by omega)) (jT hK n (m+1) (by omega)) (L' hK.tok (n+1) (m+1) (by omega)))
theorem pn (hT:TOK T) {e ty g gt:PM Nd} (A:Tot T (m+1) e) (Y:Tot T (m+1) ty) (he:Qc T m (X9 T e) g) (hy:Qc T m (X9 T ty) gt) {p:PS} (B:Bd T m p) {t:Tk} (hl:zR T p=some t) (hk:t.kind≠0):Hc (WE T e ty p) (jg T g gt p):=by
 intro r q h
 unfold WE at h;unfold jg
 simp only[Option.bind_eq_some_iff,Option.map_eq_some_iff,Prod.exists,Prod.mk.injEq] at h
 obtain⟨b,kb,x,p1,h,p2,k2,rfl,rfl⟩:=h
 rw[kb];simp only[Option.bind_some]
 cases b with
 | true =>
  simp only[if_true] at h
  unfold XP at h
  simp only[Option.bind_eq_some_iff,Prod.exists] at h
  obtain⟨u,a1,j1,w,a2,j2,n,a3,j3,a4,j4,h⟩:=h
  obtain⟨g1,rfl⟩:=QD hl hk j1
  have s1:=(qQ hT B.lt j1).1
  have s2:=(Xq hT s1.lt (by decide) j2).1
  have C:=(B.next s1).next s2
  have s3:=Hs hT _ _ _ _ _ C j3
  have s4:=(qj hT s3.lt j4).1
  have D:=(C.next s3).next s4
  have s5:=L4 hT Y _ _ _ _ _ _ D h
  have s6:=(qj hT s5.lt k2).1
  have hkid:n.kids=[]:=by
   have:∀ (k:Nat) (nd:Nd) (p:PS) (r:Nd) (q:PS),nd.kids=[]→Yx T k nd p=some (r,q)→r.kids=[]:=by
    intro k
    induction k with
    | zero=>intro nd p r q _ h;cases h
    | succ k ih =>
     intro nd p r q hn h
     unfold Yx at h
     simp only[Option.bind_eq_some_iff] at h
     obtain⟨t,_,h⟩:=h
     split at h
     ·simp only[Option.bind_eq_some_iff,Prod.exists] at h
      obtain⟨_,_,u,_,_,h⟩:=h
      exact ih _ _ _ _ (by rw[Ud];exact hn) h
     ·cases h;exact hn
   exact this _ _ _ _ _ rfl j3
  obtain⟨n',g3,e3⟩:=Dv hT _ _ (zT 25 u.pos w.text []) a2 C (fun _=>⟨rfl,by simp[zT,Nd.names]⟩) _ _ j3
  obtain⟨x',g5,e5⟩:=G2 hT Y hy _ true _ n' a4 D (fun z=>⟨e3 (s4.e0 z),by rw[hkid];simp⟩) _ _ h
  unfold uh JP
  rw[g1];simp only[Option.bind_some,if_true,j2,Option.map_some,g3,j4,g5,k2]
  exact⟨_,rfl,fun z=>e5 (s6.e0 z)⟩
 | false =>
  simp only[Bool.false_eq_true,if_false,Option.bind_eq_some_iff,Option.map_eq_some_iff,Prod.exists,Prod.mk.injEq] at h
  obtain⟨u,a1,j1,y,rc,v,a2,j2,rfl,rfl⟩:=h
  obtain⟨g1,rfl⟩:=QD hl hk j1
  have s1:=(qQ hT B.lt j1).1
  have C:=EI (B.next s1) true
  have s2:=(UW hT A C j2).1
  have s3:=(qj hT (p:={ a2 with flat:=false }) s2.lt k2).1
  obtain⟨v',g2,e2⟩:=BC hT A he C j2
  rw[g1];simp only[Option.bind_some,Bool.false_eq_true,if_false,g2,Option.map_some,k2]
  exact⟨_,rfl,fun z=>by rw[e2 (s3.e0 z)]⟩
theorem BZ (hT:TOK T) {e ty g gt:PM Nd} (A:Tot T (m+1) e) (Y:Tot T (m+1) ty) (he:Qc T m (X9 T e) g) (hy:Qc T m (X9 T ty) gt):∀ (n:Nat) (nd nd':Nd) (p:PS),Bd T m p→p.flat=false→(p.e=0→nd'=nd∧nd.kids.length≤60)→Hc (VB T e ty n nd p) (HL T g gt n nd' p)
 | 0,nd,nd',p,B,hf,hn=>fun r q h=>by cases h
 | n+1,nd,nd',p,B,hf,hn=>fun r q h=>by
  obtain⟨a,b,k1,k2,h⟩:=Hu h
  obtain⟨t,hl,ra⟩:=Wa k1
  unfold HL
  rw[hl];simp only[Option.bind_some]
  have hb:(isT t [116,121,112,101]=true∨isT t [108,101,116]=true)↔b=true:=by
   rw[←ra]
   cases a with
   | true=>simp only[if_true,Option.some.injEq] at k2;subst k2;simp
   | false =>
    simp only[Bool.false_eq_true,if_false] at k2
    obtain⟨t',hl',rb⟩:=Wa k2
    rw[hl] at hl';cases hl'
    rw[←rb];simp
  rcases h with⟨rfl,rfl,rfl⟩ | ⟨rfl,p1,x,p2,k3,k4,h'⟩
  ·rw[if_neg (fun x=>absurd (hb.1 x) (by decide))]
   exact⟨_,rfl,fun z=>(hn z).1⟩
  ·have hor:=hb.2 rfl
   have hk:t.kind≠0:=hor.elim QV QV
   obtain⟨rfl,hlen⟩:=hn (KW hl hk)
   rw[if_pos hor]
   have s1:=QE B.lt k3
   have s2:=nO hT A Y (B.next s1) (s1.flat.trans hf) k4
   by_cases c:nd'.kids.length=60
   ·rw[Ke (by omega)] at k3
    have hne:=Qa k3 (by decide)
    obtain⟨nd2,q2,y1,y2,y3⟩:=UN hT A Y (a:=0) n (nd'.addKid x) p2 s2.lt ((B.next s1).next s2).lo ((B.next s1).next s2).hi (s2.flat.trans (s1.flat.trans hf)) ⟨by
     cases n with
     | zero=>cases h'
     | succ n=>omega,fun z=>absurd (s2.e0 z) hne⟩ (fun z=>absurd (s2.e0 z) hne)
    rw[y1] at h';cases h'
    rw[if_pos c,k3]
    obtain rfl:=(s2.trans y2).err hne
    exact⟨_,rfl,fun z=>absurd z hne⟩
   ·obtain rfl:=UO (by omega) k3
    obtain⟨x',g2,e2⟩:=pn hT A Y he hy B hl hk _ _ k4
    rw[if_neg c,g2];simp only[Option.bind_some]
    exact BZ hT A Y he hy n _ _ _ (B.next s2) (s2.flat.trans hf) (fun z=>⟨by rw[e2 z],EP (by omega)⟩) _ _ h'
theorem yj (hK:TKS T) {n:Nd} {b e:Int} (h:YO T=some (n,b,e)):EQ T=some (n,b,e):=by
 have hT:=hK.tok
 unfold YO at h
 simp only[Option.map_eq_some_iff,Prod.exists] at h
 obtain⟨r,q,h,hr⟩:=h
 unfold KC at h
 simp only[Option.bind_eq_some_iff,Option.map_eq_some_iff,Prod.exists,Prod.mk.injEq] at h
 obtain⟨t,k1,x,p1,k2,p2,k3,u,p3,k4,t',k5,p4,k6,rfl,rfl⟩:=h
 have B:Bd T 0 ⟨0,0,false,0,0⟩:=⟨hT.pos,Nat.le_refl _,Nat.zero_le _⟩
 have A:=YI hT 42 1 (by omega)
 have Y:=EN hT 42 1 (by omega)
 have he:=jT hK 42 0 (by omega)
 have hy:=vT hT 42 0 (by omega)
 obtain⟨x',g2,e2⟩:=BZ hT A Y he hy _ _ (zT 30 t.pos [] []) _ B rfl (fun _=>⟨rfl,by simp[zT,Nd.kids]⟩) _ _ k2
 have s2:Step T ⟨0,0,false,0,0⟩ p1:=by
  obtain⟨nd2,q2,y1,y2,y3⟩:=UN hT A Y (a:=H6 T 0) (T.length+2) (zT 30 t.pos [] []) ⟨0,0,false,0,0⟩ B.lt B.lo B.hi rfl (Us (p:=⟨0,0,false,0,0⟩)) (fun _=>by
   have hg:T[0]?=some t:=by unfold zR at k1;rw[if_pos rfl] at k1;exact k1
   have hp:=Qf (p:=⟨0,0,false,0,0⟩) hg
   exact⟨FX ⟨t,hp.2,rfl⟩ (fun c hc=>by cases hc) (by simp),by rw[←hp.1];exact Int.le_refl _,by rw[←hp.1];exact Int.le_refl _,by simp[zT,Nd.kids],by simp[zT,Nd.names]⟩)
  rw[k2] at y1;cases y1;exact y2
 have s3:=(qj hT s2.lt k3).1
 have C:=(B.next s2).next s3
 have s4:=((qT hT A).st C k4).1
 obtain⟨u',g4,e4⟩:=he _ C _ _ k4
 have s6:Step T p3 p4:=by
  split at k6
  ·exact Le s4.lt k6
  ·cases k6;exact .refl s4.lt
 unfold EQ uR nY
 rw[k1];simp only[Option.map_some,Option.bind_some,g2,k3,g4,k5,k6]
 by_cases z:p4.e=0
 ·rw[if_pos z] at hr ⊢
  have z3:=s6.e0 z
  rw[e4 z3,e2 (s3.e0 (s4.e0 z3)),hr]
 ·rw[if_neg z] at hr ⊢
  rw[hr]
end Go.AL
namespace Go.AL
theorem pS:∀ c∈signsL,[c] ∉ keysL:=by decide
theorem bE {w:Tx} {p:Int} {t:Tk} {n:Nat} (h:Xc w p = .ok (t,n)):(t.kind=6→t.text∈keysL)∧(t.kind=5→t.text ∉ keysL):=by
 unfold Xc at h
 split at h
 ·cases h
 rename_i c r
 split at h
 ·split at h
  ·cases h
  ·cases h;exact⟨fun x=>by simp at x,fun x=>by simp at x⟩
 split at h
 ·split at h
  ·cases h
  ·cases h;exact⟨fun x=>by simp at x,fun x=>by simp at x⟩
 split at h
 ·split at h
  ·cases h
  ·cases h
   refine⟨fun x=>?_,fun x=>?_⟩
   ·dsimp only at x ⊢
    split at x
    ·omega
    ·split at x
     ·assumption
     ·omega
   ·dsimp only at x
    split at x
    ·omega
    ·split at x <;> omega
 split at h
 ·rename_i hs
  split at h
  ·cases h;exact⟨fun x=>by simp at x,fun _=>by show ([45,62]:Tx) ∉ keysL;decide⟩
  ·cases h;exact⟨fun x=>by simp at x,fun _=>pS c hs⟩
 ·cases h
theorem oW {s:Tx} {k:Nat} {T:List Tk} (h:Lx s k T):TKS T:=by
 have key:∀ t∈T,(t.kind=6→t.text∈keysL)∧(t.kind=5→t.text ∉ keysL):=by
  induction h with
  | nil=>intro t ht;simp only[List.mem_singleton] at ht;subst ht;exact⟨fun x=>by simp at x,fun x=>by simp at x⟩
  | cons h1 h2 _ ih =>
   intro t ht
   rcases List.mem_cons.1 ht with rfl | ht
   ·exact bE h2
   ·exact ih t ht
 exact⟨(Ha h).1,fun t ht=>(key t ht).1,fun t ht=>(key t ht).2⟩
theorem Em (n c:Nd):(n.addKid c).kind=n.kind:=by cases n;rfl
theorem DB {T:List Tk} {e ty:PM Nd}:∀ (n:Nat) (nd r:Nd) (p q:PS),VB T e ty n nd p=some (r,q)→r.kind=nd.kind
 | 0,nd,r,p,q,h=>by cases h
 | n+1,nd,r,p,q,h=>by
  obtain⟨a,b,_,_,h⟩:=Hu h
  rcases h with⟨_,rfl,_⟩ | ⟨_,p1,c,p2,_,_,h⟩
  ·rfl
  ·rw[DB n _ _ _ _ h,Em]
theorem Lc {s:Tx} {n:Nd} {a e:Int} (h:q8 s=some (n,a,e)):(e=0→n.kind=30)∧(e≠0→n=J9):=by
 unfold q8 at h
 cases hl:Y0 s with
 | error x =>
  obtain⟨b,f⟩:=x
  rw[hl] at h
  cases h
  exact⟨fun z=>absurd z (U4 hl),fun _=>rfl⟩
 | ok T =>
  rw[hl] at h
  dsimp only at h
  unfold YO at h
  simp only[Option.map_eq_some_iff,Prod.exists] at h
  obtain⟨r,q,h,hr⟩:=h
  unfold KC at h
  simp only[Option.bind_eq_some_iff,Option.map_eq_some_iff,Prod.exists,Prod.mk.injEq] at h
  obtain⟨t,k1,x,p1,k2,p2,k3,u,p3,k4,t',k5,p4,k6,rfl,rfl⟩:=h
  by_cases z:p4.e=0
  ·rw[if_pos z] at hr
   cases hr
   exact⟨fun _=>by rw[Em,DB _ _ _ _ _ k2];rfl,fun x=>absurd rfl x⟩
  ·rw[if_neg z] at hr
   cases hr
   exact⟨fun x=>absurd x z,fun _=>rfl⟩
theorem jw {s:Tx} {n:Nd} {a e:Int} (h:q8 s=some (n,a,e)):(∃ b,Y0 s = .error (b,e)∧a=b∧n=J9∧e≠0)∨∃ T,Y0 s = .ok T∧T.length≤2001∧EQ T=some (n,a,e):=by
 unfold q8 at h
 cases hl:Y0 s with
 | error x =>
  obtain⟨b,f⟩:=x
  rw[hl] at h
  cases h
  exact .inl ⟨b,rfl,rfl,rfl,U4 hl⟩
 | ok T =>
  rw[hl] at h
  exact .inr ⟨T,rfl,Gy hl,yj (oW (Ki hl).1) h⟩
end Go.AL
