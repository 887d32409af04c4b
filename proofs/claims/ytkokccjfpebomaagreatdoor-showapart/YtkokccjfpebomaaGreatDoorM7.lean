/- The document's parser does as the program's: types, declarations of types, patterns. -/
import Derived.Test.YtkokccjfpebomaaGreatDoorM5
import Derived.Test.YtkokccjfpebomaaGreatDoorS7
import Derived.Test.YtkokccjfpebomaaGreatDoorN9
set_option linter.unusedSimpArgs false
set_option linter.unusedVariables false
namespace Go.AL
variable {T:List Tk} {m:Nat}
structure TKS (T:List Tk):Prop where
 tok:TOK T
 key:∀ t∈T,t.kind=6→t.text∈keysL
 sgn:∀ t∈T,t.kind=5→t.text ∉ keysL
def zdg (x y:Option (Nd×PS)):Prop:=∀ r q,x=some (r,q)→∃ r',y=some (r',q)∧(q.e=0→r'=r)
def Z2 (T:List Tk) (m:Nat) (F G:PM Nd):Prop:=∀ p:PS,Bd T m p→zdg (F p) (G p)
theorem zbe {p:PS} {t:Tk} (h:zX T p=some t) (hk:t.kind≠0):p.e=0:=by
 by_cases c:p.e=0
 ·exact c
 ·unfold zX at h;rw[if_neg c] at h;cases h;exact absurd rfl hk
theorem zjS {p:PS} {t:Tk} (h:zX T p=some t) (c:¬ p.e=0):t=tk0:=by
 unfold zX at h;rw[if_neg c] at h;cases h;rfl
theorem ze4 {p:PS} {t:Tk} (h:zX T p=some t) (hk:t.kind≠0):t∈T:=by
 have c:=zbe h hk
 unfold zX at h;rw[if_pos c] at h;exact List.mem_of_getElem? h
theorem Qr {p q:PS} {t u:Tk} (h:zX T p=some t) (hk:t.kind≠0) (ht:ZP T p=some (u,q)):Zp T p=some (t,q)∧u=t:=by
 have he:=zbe h hk
 have h2:=(zab ht).1
 rw[h] at h2;cases h2
 refine⟨?_,rfl⟩
 unfold Zp;unfold ZP at ht
 rw[h] at ht ⊢
 simp only[Option.map_some,he,hk,ne_eq,not_false_eq_true,and_self,if_true,Option.some.injEq,Prod.mk.injEq] at ht
 obtain⟨_,rfl⟩:=ht
 simp only[Option.map_some,hk,if_false,he]
theorem VT {p q:PS} {s:Tx} {b:Bool} (k:Xz T s p=some (b,q)):∃ t,zX T p=some t∧isT t s=b∧Y1 T s p=some b∧(b=true→Zp T p=some (t,q)∧p.e=0)∧(b=false→q=p):=by
 obtain⟨t,h1,h2,h3⟩:=zrW k
 refine⟨t,h1,h2.symm,by unfold Y1;rw[h1,h2];rfl,fun hb=>?_,fun hb=>?_⟩
 ·rw[if_pos hb] at h3
  have hk:=XH (h2.symm.trans hb)
  exact⟨(Qr h1 hk h3).1,zbe h1 hk⟩
 ·rw[hb] at h3;simpa using h3
theorem zmL {p q:PS} {s:Tx} {t:Tk} (h:zX T p=some t) (hs:isT t s=true) (k:qF T s p=some q):Zp T p=some (t,q):=by
 obtain⟨b,q',h1,h2⟩:=zoH k
 obtain⟨t',g1,g2,_,g3,_⟩:=VT h1
 rw[h] at g1;cases g1
 rw[hs] at g2;subst g2
 rw[if_pos rfl] at h2;subst h2
 exact (g3 rfl).1
theorem zlS {p q:PS} {k:Int} {t u:Tk} (h:zX T p=some u) (k1:Yg T k p=some (t,q)) (z:q.e=0):t=u:=by
 obtain⟨v,p1,h1,h2,h3⟩:=zfv k1
 rw[h] at h1;cases h1
 have ht:=zab h3
 by_cases c:u.kind=k
 ·rw[if_neg (by simp[c])] at h2;subst h2
  rw[h] at ht;exact (Option.some.inj ht.1).symm
 ·rw[if_pos c] at h2
  have hne:=Ys h2 (by decide)
  have hq:=ht.2
  rw[if_neg (fun x=>hne x.1)] at hq
  subst hq;exact absurd z hne
theorem zjC {n N:Nat} {p:PS} (h:n≤N):zck T (n=N) p=Qk T n N p:=by
 unfold zck Qk
 by_cases c:n=N
 ·rw[if_pos c,if_pos (by omega)]
 ·rw[if_neg c,if_neg (by omega)]
theorem zh1 {n M:Int} {p q:PS} (h:Qk T n M p=some q) (z:q.e=0):n<M:=by
 unfold Qk at h
 split at h
 ·exact absurd z (Ys h (by decide))
 ·omega
theorem zaT {n M:Int} {p:PS} (h:M≤n):Qk T n M p=Zc T 16 p:=by unfold Qk;rw[if_pos h]
theorem zbH {n M:Int} {p q:PS} (h:n<M) (k:Qk T n M p=some q):q=p:=by unfold Qk at k;rw[if_neg (by omega)] at k;exact (Option.some.inj k).symm
theorem J5 {e g:PM Nd} (he:Z2 T (m+1) e g):Z2 T m (Yt T e) (Ym T g):=by
 intro p B r q h
 unfold Yt at h
 have hi:=B.hi
 have hc:(40≤p.deep)=(p.deep=40):=propext ⟨fun h=>by omega,fun h=>by omega⟩
 simp only[hc,Option.bind_eq_some_iff] at h
 obtain⟨p1,h1,h⟩:=h
 unfold Ym
 rw[if_neg (by omega),h1];simp only[Option.bind_some]
 by_cases c:p1.e≠0
 ·rw[if_pos c] at h ⊢;cases h;exact⟨_,rfl,fun _=>rfl⟩
 ·rw[if_neg c] at h ⊢
  have h40:¬ p.deep=40:=fun x=>by
   rw[if_pos x] at h1
   exact c (Ys h1 (by decide))
  rw[if_neg h40] at h1;cases h1
  simp only[Option.bind_eq_some_iff,Prod.exists] at h
  obtain⟨x,p2,k2,h⟩:=h
  obtain⟨x',g1,g2⟩:=he _ (zzr B (by omega)) _ _ k2
  rw[g1];simp only[Option.bind_some]
  split at h
  ·cases h
  ·rename_i c2
   cases h
   rw[if_neg c2]
   exact⟨x',rfl,fun z=>g2 z⟩
theorem zes {G:PM Nd}:Z2 T m (fun _=>none) G:=fun p B r q h=>by cases h
theorem zho (hT:TOK T) {e g:PM Nd} (A:Tot T (m+1) e) (he:Z2 T m (Yt T e) g):∀ (n:Nat) (nd nd':Nd) (p:PS),Bd T m p→(p.e=0→nd'=nd)→zdg (tyL T e n nd p) (zjv T g n nd' p)
 | 0,nd,nd',p,B,hn=>fun r q h=>by cases h
 | n+1,nd,nd',p,B,hn=>fun r q h=>by
  unfold tyL at h
  simp only[Option.bind_eq_some_iff] at h
  obtain⟨t,k1,h⟩:=h
  by_cases c0:p.e=0
  rotate_left
  ·have ht:=zjS k1 c0
   subst ht
   rw[if_neg (by decide)] at h
   simp only[Option.bind_eq_some_iff] at h
   obtain⟨b,k2,h⟩:=h
   have hb:b=false:=by unfold Y1 at k2;rw[k1] at k2;cases k2;rfl
   subst hb
   cases h
   exact⟨nd',by unfold zjv;rw[if_neg c0],fun z=>absurd z c0⟩
  obtain rfl:=hn c0
  unfold zjv
  rw[if_pos c0,k1];simp only[Option.bind_some]
  split at h
  ·rename_i c
   simp only[Option.bind_eq_some_iff,Prod.exists] at h
   obtain⟨u,a,k2,h⟩:=h
   obtain⟨g1,rfl⟩:=Qr k1 (by omega) k2
   rw[if_pos c,g1];simp only[Option.bind_some]
   exact zho hT A he n _ _ _ (B.next (Xb hT B.lt k2).1) (fun _=>rfl) _ _ h
  ·rename_i c
   simp only[Option.bind_eq_some_iff] at h
   obtain⟨b,k2,h⟩:=h
   obtain⟨u,hu,rfl⟩:=zed k2
   rw[k1] at hu;cases hu
   rw[if_neg c]
   split at h
   ·rename_i cb
    simp only[Option.bind_eq_some_iff,Prod.exists] at h
    obtain⟨x,p1,k3,h⟩:=h
    rw[if_pos cb]
    unfold J1 at k3
    simp only[Option.bind_eq_some_iff,Option.map_eq_some_iff,Prod.exists,Prod.mk.injEq] at k3
    obtain⟨p2,k4,y,p3,k5,p4,k6,rfl,rfl⟩:=k3
    have s1:=(Zt hT B.lt k4).1
    have s2:=((Z6 hT A).st (B.next s1) k5).1
    have s3:=(Zt hT s2.lt k6).1
    obtain⟨x',g2,e2⟩:=he _ (B.next s1) _ _ k5
    rw[zmL k1 cb k4];simp only[Option.bind_some,g2,k6]
    exact zho hT A he n _ _ _ (((B.next s1).next s2).next s3) (fun z=>by rw[e2 (s3.e0 z)]) _ _ h
   ·rename_i cb
    cases h
    rw[if_neg cb]
    exact⟨_,rfl,fun _=>rfl⟩
theorem zuw (hT:TOK T) {e g:PM Nd} (A:Tot T (m+1) e) (he:Z2 T m (Yt T e) g):Z2 T m (tyS T e) (tyB T g):=by
 intro p B r q h
 unfold tyS at h
 simp only[Option.bind_eq_some_iff,Prod.exists] at h
 obtain⟨t,p1,k1,h⟩:=h
 obtain⟨u,_,hu,_⟩:=zfv k1
 unfold tyB atR Jt
 rw[hu,k1];simp only[Option.map_some,Option.bind_some]
 exact zho hT A he _ _ _ _ (B.next (VU hT B.lt (by decide) k1).1) (fun z=>by rw[zlS hu k1 z]) _ _ h
theorem zmt (hT:TOK T):∀ (n m:Nat),42≤m+n→Z2 T m (Yt T (tyF T n)) (Ym T (tyI T n))
 | 0,m,h=>J5 zes
 | n+1,m,h=>J5 (zuw hT (zd1 hT n (m+2) (by omega)) (zmt hT n (m+1) (by omega)))
theorem zis (hT:TOK T) {e g:PM Nd} (A:Tot T (m+1) e) (he:Z2 T m (Yt T e) g):∀ (n:Nat) (s:Tx) (b:Bool) (nd nd':Nd) (p0 p:PS),Xz T s p0=some (b,p)→Bd T m p0→(p.e=0→nd'=nd∧nd.kids.length≤4)→zdg (zfE T e n b nd p) (zgd T g n b nd' p0)
 | 0,s,b,nd,nd',p0,p,k0,B,hn=>fun r q h=>by cases h
 | n+1,s,b,nd,nd',p0,p,k0,B,hn=>fun r q h=>by
  obtain⟨t,h1,h2,h3,h4,h5⟩:=VT k0
  unfold zfE at h;unfold zgd
  cases b with
  | false =>
   obtain rfl:=h5 rfl
   simp only[Bool.false_eq_true,false_and,if_false] at h ⊢
   cases h
   exact⟨_,rfl,fun z=>(hn z).1⟩
  | true =>
   have s0:=Vu hT B.lt k0
   have e0:=(h4 rfl).2
   have ep:p.e=0:=by
    obtain⟨b',q',k',_,he',_⟩:=JY hT B.lt s
    rw[k0] at k';cases k';exact he'.trans e0
   obtain⟨rfl,hl⟩:=hn ep
   rw[if_pos ⟨rfl,ep⟩] at h
   rw[if_pos ⟨rfl,e0⟩,(h4 rfl).1]
   simp only[Option.bind_eq_some_iff,Prod.exists] at h
   obtain⟨p1,k1,x,p2,k2,b2,p3,k3,h⟩:=h
   have B1:=(B.next s0).next (XJ s0.lt k1)
   have s2:=((Z6 hT A).st B1 k2).1
   obtain⟨x',g2,e2⟩:=he _ B1 _ _ k2
   simp only[Option.bind_some]
   rw[zjC hl,show Qk T (nd'.kids.length:Int) ((4:Nat):Int) p=some p1 from k1]
   simp only[Option.bind_some,g2]
   obtain⟨_,_,_,g3,_⟩:=VT k3
   rw[g3];simp only[Option.bind_some]
   have s3:=Vu hT s2.lt k3
   exact zis hT A he n [44] b2 _ _ p2 p3 k3 (B1.next s2) (fun z=>⟨by rw[e2 (s3.e0 z)],by
    have:=zh1 k1 (s2.e0 (s3.e0 z))
    cases nd';simp[Nd.addKid,Nd.kids] at this ⊢;omega⟩) _ _ h
theorem zsL (hT:TOK T) {e g:PM Nd} (A:Tot T (m+1) e) (he:Z2 T m (Yt T e) g):Z2 T m (zh5 T e) (zje T g):=by
 intro p B r q h
 unfold zh5 at h
 simp only[Option.bind_eq_some_iff,Prod.exists] at h
 obtain⟨t,p1,k1,b,p2,k2,h⟩:=h
 obtain⟨u,_,hu,_⟩:=zfv k1
 have s1:=(VU hT B.lt (by decide) k1).1
 have s2:=Vu hT s1.lt k2
 obtain⟨_,_,_,g3,_,g5⟩:=VT k2
 unfold zje atR Jt
 rw[hu,k1];simp only[Option.map_some,Option.bind_some,g3]
 refine zis hT A he _ [111,102] b (zR 26 t.pos t.text []) _ p1 p2 k2 (B.next s1) (fun z=>⟨by rw[zlS hu k1 (s2.e0 z)],by simp[zR,Nd.kids]⟩) _ _ ?_
 cases b with
 | true=>exact h
 | false=>exact h
theorem zem (hT:TOK T):∀ (n:Nat) (nd nd':Nd) (p:PS),Bd T m p→(p.e=0→nd'=nd∧nd.names.length≤4)→zdg (Yh T n nd p) (zaI T n nd' p)
 | 0,nd,nd',p,B,hn=>fun r q h=>by cases h
 | n+1,nd,nd',p,B,hn=>fun r q h=>by
  unfold Yh at h;unfold zaI
  simp only[Option.bind_eq_some_iff] at h
  obtain⟨t,k1,h⟩:=h
  rw[k1];simp only[Option.bind_some]
  split at h
  ·rename_i c
   obtain⟨rfl,hl⟩:=hn (zbe k1 (by omega))
   simp only[Option.bind_eq_some_iff,Prod.exists] at h
   obtain⟨p1,k2,u,p2,k3,h⟩:=h
   have s1:=XJ B.lt k2
   have s2:=(Xb hT s1.lt k3).1
   rw[if_pos c]
   by_cases c4:nd'.names.length=4
   ·rw[zaT (by omega)] at k2
    have hne:=Ys k2 (by decide)
    have s3:=zcQ hT n _ _ _ _ ((B.next s1).next s2) h
    rw[if_pos c4,k2]
    obtain rfl:=(s2.trans s3).err hne
    exact⟨_,rfl,fun z=>absurd z hne⟩
   ·obtain rfl:=zbH (by omega) k2
    obtain⟨g1,rfl⟩:=Qr k1 (by omega) k3
    rw[if_neg c4,g1];simp only[Option.bind_some]
    exact zem hT n _ _ _ (B.next s2) (fun _=>⟨rfl,by cases nd';simp[Nd.addName,Nd.names] at c4 hl ⊢;omega⟩) _ _ h
  ·rename_i c
   cases h
   rw[if_neg c]
   exact⟨_,rfl,fun z=>(hn z).1⟩
theorem zd3:∀ {n:Nat} {nd c:Nd},nd.kids.length<n→(nd.addKid c).kids.length≤n:=fun {n nd c} h=>by cases nd;simp[Nd.addKid,Nd.kids] at h ⊢;omega
theorem zf8 (hT:TOK T) {e g:PM Nd} (A:Tot T (m+1) e) (he:Z2 T m (Yt T e) g):∀ (n:Nat) (b:Bool) (nd nd':Nd) (p:PS),Bd T m p→(p.e=0→nd'=nd∧nd.kids.length≤20)→zdg (V4 T e n b nd p) (zdc T g n b nd' p)
 | 0,b,nd,nd',p,B,hn=>fun r q h=>by cases h
 | n+1,b,nd,nd',p,B,hn=>fun r q h=>by
  unfold V4 at h;unfold zdc
  by_cases c:b=true∧p.e=0
  ·obtain⟨rfl,hl⟩:=hn c.2
   rw[if_pos c] at h ⊢
   simp only[Option.bind_eq_some_iff,Prod.exists] at h
   obtain⟨p1,k1,x,p2,k2,b2,p3,k3,h⟩:=h
   have B1:=B.next (XJ B.lt k1)
   have s2:=((zh6 hT A).st B1 k2).1
   have s3:=Vu hT s2.lt k3
   obtain⟨x',g2,e2⟩:=zsL hT A he _ B1 _ _ k2
   rw[zjC hl,show Qk T (nd'.kids.length:Int) ((20:Nat):Int) p=some p1 from k1]
   simp only[Option.bind_some,g2,k3]
   exact zf8 hT A he n b2 _ _ p3 ((B1.next s2).next s3) (fun z=>⟨by rw[e2 (s3.e0 z)],zd3 (by have:=zh1 k1 (s2.e0 (s3.e0 z));omega)⟩) _ _ h
  ·rw[if_neg c] at h ⊢
   cases h
   exact⟨_,rfl,fun z=>(hn z).1⟩
theorem Z5 {t:Tk} {s:Tx}:isT t s=true↔(t.kind=5∨t.kind=6)∧t.text=s:=by
 unfold isT;simp
theorem YZ {t:Tk} {s:Tx} (h:¬ (t.kind=5∨t.kind=6)):¬ isT t s=true:=fun x=>h (Z5.1 x).1
theorem zeB {t:Tk} {s:Tx} (h:t.text≠s):¬ isT t s=true:=fun x=>h (Z5.1 x).2
theorem Jm {kinds:List (Int×Int)} {p q:PS} {r:Nd} {t:Tk} (hl:zX T p=some t) (k:Int) (hk:k≠0) (hf:((kinds.find? fun q=>q.1==t.kind).map (·.2)).getD 0=k) (h0:t.kind≠0) (h:X4 T kinds p=some (r,q)):Yw T k p=some (r,q):=by
 unfold X4 at h
 rw[hl] at h
 simp only[Option.bind_some,hf] at h
 rw[if_neg hk] at h
 simp only[Option.map_eq_some_iff,Prod.exists,Prod.mk.injEq] at h
 obtain⟨u,a,h1,rfl,rfl⟩:=h
 obtain⟨g1,rfl⟩:=Qr hl h0 h1
 unfold Yw;rw[g1];rfl
theorem zeC {kinds:List (Int×Int)} {p q:PS} {r:Nd} {t:Tk} (hl:zX T p=some t) (hf:((kinds.find? fun q=>q.1==t.kind).map (·.2)).getD 0=0) (h:X4 T kinds p=some (r,q)):Zc T 14 p=some q∧r=JH:=by
 unfold X4 at h
 rw[hl] at h
 simp only[Option.bind_some,hf,if_true,Option.map_eq_some_iff,Prod.mk.injEq] at h
 obtain⟨a,h1,rfl,rfl⟩:=h
 exact⟨h1,rfl⟩
theorem zgB (hT:TOK T) {e g:PM Nd} (A:Tot T (m+1) e) (he:Z2 T m (Yt T e) g):Z2 T m (Y0 T e) (zbv T g):=by
 intro p B r q h
 unfold Y0 at h;unfold zbv
 simp only[Option.bind_eq_some_iff,Prod.exists] at h
 obtain⟨t,k1,b,p1,k2,h⟩:=h
 obtain⟨u,hu,h2,h3,h4,h5⟩:=VT k2
 rw[k1] at hu;cases hu
 rw[k1];simp only[Option.bind_some]
 cases b with
 | true =>
  have hi:=Z5.1 h2
  have h56:t.kind≠1∧t.kind≠3∧t.kind≠4:=by omega
  rw[if_neg h56.1,if_neg h56.2.1,if_neg h56.2.2,if_pos h2,(h4 rfl).1]
  cases h
  exact⟨_,rfl,fun _=>rfl⟩
 | false =>
  obtain rfl:=h5 rfl
  simp only[Bool.false_eq_true,if_false,Option.bind_eq_some_iff] at h
  obtain⟨b,k3,h⟩:=h
  obtain⟨u,hu,rfl⟩:=zed k3
  rw[k1] at hu;cases hu
  split at h
  ·rename_i cb
   have hi:=Z5.1 cb
   have h56:t.kind≠1∧t.kind≠3∧t.kind≠4:=by omega
   rw[if_neg h56.1,if_neg h56.2.1,if_neg h56.2.2,if_neg (by rw[h2];decide),if_pos cb]
   unfold J1 at h
   simp only[Option.bind_eq_some_iff,Option.map_eq_some_iff,Prod.exists,Prod.mk.injEq] at h
   obtain⟨p2,k4,y,p3,k5,p4,k6,rfl,rfl⟩:=h
   have s1:=(Zt hT B.lt k4).1
   have s2:=((Z6 hT A).st (B.next s1) k5).1
   have s3:=(Zt hT s2.lt k6).1
   obtain⟨x',g2,e2⟩:=he _ (B.next s1) _ _ k5
   rw[zmL k1 cb k4];simp only[Option.bind_some,g2,k6,Option.map_some]
   exact⟨_,rfl,fun z=>e2 (s3.e0 z)⟩
  ·rename_i cb
   by_cases c1:t.kind=1
   ·rw[if_pos c1,Jm k1 1 (by decide) (by rw[c1];rfl) (by omega) h];exact⟨_,rfl,fun _=>rfl⟩
   by_cases c3:t.kind=3
   ·rw[if_neg c1,if_pos c3,Jm k1 4 (by decide) (by rw[c3];rfl) (by omega) h];exact⟨_,rfl,fun _=>rfl⟩
   by_cases c4:t.kind=4
   ·rw[if_neg c1,if_neg c3,if_pos c4,Jm k1 5 (by decide) (by rw[c4];rfl) (by omega) h];exact⟨_,rfl,fun _=>rfl⟩
   obtain⟨f1,rfl⟩:=zeC k1 (by
    have a1:((1:Int)==t.kind)=false:=by simp;omega
    have a3:((3:Int)==t.kind)=false:=by simp;omega
    have a4:((4:Int)==t.kind)=false:=by simp;omega
    simp[List.find?_cons,a1,a3,a4]) h
   rw[if_neg c1,if_neg c3,if_neg c4,if_neg (by rw[h2];decide),if_neg cb,f1]
   exact⟨_,rfl,fun _=>rfl⟩
theorem zjQ (hT:TOK T) {e g:PM Nd} (A:Tot T (m+1) e) (he:Z2 T m (Yt T e) g):∀ (n:Nat) (b:Bool) (nd nd':Nd) (p:PS),Bd T m p→(b=true→p.e=0→nd'=nd∧nd.kids.length≤4)→(p.e=0→nd'=nd)→zdg (zbM T e n b nd p) (zdp T g n b nd' p)
 | 0,b,nd,nd',p,B,hn,hz=>fun r q h=>by cases h
 | n+1,false,nd,nd',p,B,hn,hz=>fun r q h=>by
  unfold zbM at h;unfold zdp
  cases h;exact⟨_,rfl,hz⟩
 | n+1,true,nd,nd',p,B,hn,hz=>fun r q h=>by
  unfold zbM at h;unfold zdp
  rw[if_pos rfl] at h ⊢
  simp only[Option.bind_eq_some_iff] at h
  obtain⟨b,k1,h⟩:=h
  rw[k1];simp only[Option.bind_some]
  cases b with
  | false=>cases h;exact⟨_,rfl,hz⟩
  | true =>
   have e0:p.e=0:=by
    obtain⟨b',hb',hx⟩:=zef (T:=T) B.lt
    rw[k1] at hb';cases hb';exact hx rfl
   obtain⟨rfl,hl⟩:=hn rfl e0
   simp only[if_true,Option.bind_eq_some_iff,Prod.exists] at h ⊢
   obtain⟨p1,k2,x,p2,k3,h⟩:=h
   have s1:=XJ B.lt k2
   have s2:=((J4 hT A).st (B.next s1) k3).1
   by_cases c4:nd'.kids.length=4
   ·rw[zaT (by omega)] at k2
    have hne:=Ys k2 (by decide)
    have s3:=zma hT A n _ _ _ _ _ ((B.next s1).next s2) h
    rw[if_pos c4,k2]
    obtain rfl:=(s2.trans s3).err hne
    exact⟨_,rfl,fun z=>absurd z hne⟩
   ·obtain rfl:=zbH (by omega) k2
    obtain⟨x',g2,e2⟩:=zgB hT A he _ B _ _ k3
    rw[if_neg c4,g2];simp only[Option.bind_some]
    exact zjQ hT A he n true _ _ _ (B.next s2) (fun _ z=>⟨by rw[e2 z],zd3 (by omega)⟩) (fun z=>by rw[e2 z]) _ _ h
theorem zfX {kinds:List (Int×Int)} {p q:PS} {r:Nd} (h:X4 T kinds p=some (r,q)):r.kids=[]:=by
 unfold X4 at h
 simp only[Option.bind_eq_some_iff] at h
 obtain⟨t,_,h⟩:=h
 split at h
 ·simp only[Option.map_eq_some_iff,Prod.mk.injEq] at h
  obtain⟨_,_,rfl,_⟩:=h;rfl
 ·simp only[Option.map_eq_some_iff,Prod.exists,Prod.mk.injEq] at h
  obtain⟨_,_,_,rfl,_⟩:=h;rfl
theorem zsI (hT:TOK T) {e g:PM Nd} (A:Tot T (m+1) e) (he:Z2 T m (Yt T e) g):Z2 T m (zjY T e) (zoB T g):=by
 intro p B r q h
 unfold zjY at h;unfold zoB
 simp only[Option.bind_eq_some_iff,Prod.exists] at h
 obtain⟨t,k1,x,p1,k2,h⟩:=h
 have s1:=((J4 hT A).st B k2).1
 obtain⟨x',g2,e2⟩:=zgB hT A he _ B _ _ k2
 rw[k1];simp only[Option.bind_some,g2]
 refine zjQ hT A he _ _ _ _ _ (B.next s1) (fun hb z=>⟨e2 z,?_⟩) e2 _ _ h
 have hk:t.kind=4:=by simpa using hb
 have hx:x.kids=[]:=by
  unfold Y0 at k2
  rw[k1] at k2
  have n1:isT t [95]=false:=by simp[isT,hk]
  have n2:isT t [40]=false:=by simp[isT,hk]
  simp only[Option.bind_some,Xz,Y1,k1,Option.map_some,n1,n2,Bool.false_eq_true,if_false] at k2
  exact zfX k2
 rw[hx];exact Nat.zero_le _
theorem zja (hT:TOK T):∀ (n m:Nat),42≤m+n→Z2 T m (Yt T (zk4 T n)) (Ym T (zsz T n))
 | 0,m,h=>J5 zes
 | n+1,m,h=>J5 (zsI hT (zcm hT n (m+2) (by omega)) (zja hT n (m+1) (by omega)))
end Go.AL
namespace Go.AL
variable {T:List Tk} {m:Nat}
theorem Ve {e g:PM Nd} (he:Z2 T m (Yt T e) g):Z2 T m (XR T e) (QL g):=by
 intro p B r q h
 unfold XR at h;unfold QL
 simp only[Option.map_eq_some_iff,Prod.exists,Prod.mk.injEq] at h
 obtain⟨c,a,k,rfl,rfl⟩:=h
 obtain⟨x',g1,g2⟩:=he _ (zlV B false) _ _ k
 rw[g1]
 exact⟨x',rfl,g2⟩
theorem zn0 (n a b:Nd):(n.addKids [a,b]).kids.length=n.kids.length+2:=by cases n;simp[Nd.addKids,Nd.kids]
theorem zio (n a b:Nd):n.addKids [a,b]=(n.addKid a).addKid b:=by cases n;simp[Nd.addKids,Nd.addKid]
theorem ziR (k:Nat):Int.tdiv ((2*k+1:Nat):Int) 2=(k:Int):=by
 show (((2*k+1) / 2:Nat):Int)=(k:Int)
 omega
theorem zez (hT:TOK T) {e pt g gp:PM Nd} (A:Tot T (m+1) e) (P:Tot T (m+1) pt) (he:Z2 T m (Yt T e) g) (hp:Z2 T m (Yt T pt) gp):∀ (n:Nat) (f b:Bool) (nd nd':Nd) (p:PS),Bd T m p→(if f=true then some true else Y1 T [124] p)=some b→(p.e=0→nd'=nd∧∃ k,nd.kids.length=2*k+1∧k≤20)→zdg (XS T e pt n f nd p) (zaJ T g gp n b nd' p)
 | 0,f,b,nd,nd',p,B,hb,hn=>fun r q h=>by cases h
 | n+1,f,b,nd,nd',p,B,hb,hn=>fun r q h=>by
  obtain⟨b',k0,h⟩:=zex h
  rw[hb] at k0;cases k0
  unfold zaJ
  rcases h with⟨rfl,rfl,rfl⟩ | ⟨rfl,c,w,p5,hr,h⟩
  ·rw[if_neg (by decide)]
   exact⟨_,rfl,fun z=>(hn z).1⟩
  rw[if_pos rfl]
  obtain⟨p1,p2,p3,p4,k1,k2,k3,k4,k5⟩:=hr.h
  have s1:=XJ B.lt k1
  have s2:=(Zt hT s1.lt k2).1
  have B2:=(B.next s1).next s2
  have s3:=((Z6 hT P).st B2 k3).1
  have s4:=(Zt hT s3.lt k4).1
  have B4:=(B2.next s3).next s4
  have s5:=((QI hT A).st B4 k5).1
  obtain⟨c',g3,e3⟩:=hp _ B2 _ _ k3
  obtain⟨w',g5,e5⟩:=Ve he _ B4 _ _ k5
  obtain⟨b2,hb2,_⟩:=za3 (T:=T) s5.lt [124]
  have hcap:zck T (nd'.kids.length=41) p=some p1:=by
   by_cases e0:p.e=0
   ·obtain⟨rfl,k,hk,hl⟩:=hn e0
    unfold zck;unfold Qk at k1
    rw[hk,ziR k] at k1
    rw[hk]
    by_cases c20:k=20
    ·rw[if_pos (by omega)] at k1 ⊢;exact k1
    ·rw[if_neg (by omega)] at k1 ⊢;exact k1
   ·obtain rfl:=s1.err e0
    unfold zck
    split
    ·unfold Zc;rw[if_neg e0]
    ·rfl
  rw[hcap];simp only[Option.bind_some,k2,g3,k4,g5,hb2]
  rw[zio] at h
  refine zez hT A P he hp n false b2 _ _ p5 (B4.next s5) (by simpa using hb2) (fun z=>?_) _ _ h
  have z4:=s5.e0 z
  have z3:=s4.e0 z4
  have z0:=s1.e0 (s2.e0 (s3.e0 z3))
  obtain⟨rfl,k,hk,hl⟩:=hn z0
  refine⟨by rw[e3 z3,e5 z],k+1,by rw[←zio,zn0];omega,?_⟩
  have:=zh1 k1 (s2.e0 (s3.e0 z3))
  rw[hk,ziR] at this;omega
theorem zm8 (hT:TOK T) {e pt g gp:PM Nd} (A:Tot T (m+1) e) (P:Tot T (m+1) pt) (he:Z2 T m (Yt T e) g) (hp:Z2 T m (Yt T pt) gp) {p:PS} (B:Bd T m p) {t:Tk} (hl:zX T p=some t) (hk:t.kind≠0) :
  zdg (VX T e pt p) ((Zp T p).bind fun r=>(QL g r.2).bind fun q=>(qF T [119,105,116,104] q.2).bind fun p1=>zec T g gp t.pos q.1 p1):=by
 intro r q h
 unfold VX at h
 simp only[Option.bind_eq_some_iff,Option.map_eq_some_iff,Prod.exists,Prod.mk.injEq] at h
 obtain⟨t1,a1,k1,w1,a2,k2,a3,k3,n1,a4,k4,a5,k5,rfl,rfl⟩:=h
 obtain⟨g1,rfl⟩:=Qr hl hk k1
 have s1:=(Xb hT B.lt k1).1
 have s2:=((QI hT A).st (B.next s1) k2).1
 have s3:=(Zt hT s2.lt k3).1
 have C1:=((B.next s1).next s2).next s3
 have s4:=zf5 hT A P _ _ _ _ _ _ C1 k4
 have s5:=(Zt hT s4.lt k5).1
 obtain⟨w',g2,e2⟩:=Ve he _ (B.next s1) _ _ k2
 unfold zec
 rw[g1];simp only[Option.bind_some,g2,k3]
 obtain⟨n',g4,e4⟩:=zez hT A P he hp _ true true _ (zR 11 t1.pos [] [w']) a3 C1 rfl (fun z=>⟨by rw[e2 (s3.e0 z)],0,by simp[zR,Nd.kids],by omega⟩) _ _ k4
 rw[g4];simp only[Option.bind_some,k5,Option.map_some]
 exact⟨_,rfl,fun z=>e4 (s5.e0 z)⟩
theorem zso (hT:TOK T) {e g:PM Nd} (A:Tot T (m+1) e) (he:Z2 T m (Yt T e) g) {p:PS} (B:Bd T m p) {t:Tk} (hl:zX T p=some t) (hk:t.kind≠0) :
  zdg (zhw T e p) ((Zp T p).bind fun r=>(QL g r.2).bind fun q=>(qF T [119,105,116,104] q.2).bind fun p1=>zoT T g t.pos q.1 p1):=by
 intro r q h
 unfold zhw at h
 simp only[Option.bind_eq_some_iff,Option.map_eq_some_iff,Prod.exists,Prod.mk.injEq] at h
 obtain⟨t1,a1,k1,w1,a2,k2,a3,k3,u,a4,k4,a5,k5,v,a6,k6,a7,k7,rfl,rfl⟩:=h
 obtain⟨g1,rfl⟩:=Qr hl hk k1
 have s1:=(Xb hT B.lt k1).1
 have s2:=((QI hT A).st (B.next s1) k2).1
 have s3:=(Zt hT s2.lt k3).1
 have s4:=(VU hT s3.lt (by decide) k4).1
 have s5:=(Zt hT s4.lt k5).1
 have C1:=((((B.next s1).next s2).next s3).next s4).next s5
 have s6:=((QI hT A).st C1 k6).1
 have s7:=(Zt hT s6.lt k7).1
 obtain⟨w',g2,e2⟩:=Ve he _ (B.next s1) _ _ k2
 obtain⟨v',g6,e6⟩:=Ve he _ C1 _ _ k6
 unfold zoT Jt
 rw[g1];simp only[Option.bind_some,g2,k3,k4,Option.map_some,k5,g6,k7]
 exact⟨_,rfl,fun z=>by
  have z6:=s7.e0 z
  rw[e6 z6,e2 (s3.e0 (s4.e0 (s5.e0 (s6.e0 z6))))]⟩
theorem Vf (hT:TOK T) {e pt g gp:PM Nd} (A:Tot T (m+1) e) (P:Tot T (m+1) pt) (he:Z2 T m (Yt T e) g) (hp:Z2 T m (Yt T pt) gp):Z2 T m (YU T e pt) (Yy T g gp):=by
 intro p B r q h
 unfold YU at h;unfold Yy
 simp only[Option.bind_eq_some_iff] at h
 obtain⟨t,k1,h⟩:=h
 rw[k1];simp only[Option.bind_some]
 by_cases c5:t.kind=5∨t.kind=6
 ·rw[if_neg (show ¬ t.kind=1 by omega),if_neg (show ¬ t.kind=2 by omega),if_neg (show ¬ t.kind=3 by omega),if_neg (show ¬ t.kind=4 by omega)]
  have hk:t.kind≠0:=by omega
  split at h
  ·rename_i c
   have hx:=(Z5.1 c).2
   rw[if_neg (zeB (by rw[hx];decide)),if_neg (zeB (by rw[hx];decide)),if_neg (zeB (by rw[hx];decide)),if_pos c]
   exact zm8 hT A P he hp B k1 hk _ _ h
  rename_i cm
  split at h
  ·rename_i c
   have hx:=(Z5.1 c).2
   rw[if_neg (zeB (by rw[hx];decide)),if_neg (zeB (by rw[hx];decide)),if_pos c]
   exact zso hT A he B k1 hk _ _ h
  rename_i ct
  split at h
  ·rename_i c
   simp only[Option.map_eq_some_iff,Prod.exists,Prod.mk.injEq] at h
   obtain⟨u,a,k2,rfl,rfl⟩:=h
   rw[if_pos c,(Qr k1 hk k2).1]
   exact⟨_,rfl,fun _=>rfl⟩
  rename_i cr
  split at h
  ·rename_i c
   simp only[Option.bind_eq_some_iff,Prod.exists] at h
   obtain⟨u,p1,k2,b,p2,k3,h⟩:=h
   have s1:=(Xb hT B.lt k2).1
   have s2:=Vu hT s1.lt k3
   rw[if_neg cr,if_pos c,(Qr k1 hk k2).1]
   simp only[Option.bind_some,k3]
   split at h
   ·rename_i cb
    cases h
    rw[if_pos cb];exact⟨_,rfl,fun _=>rfl⟩
   ·rename_i cb
    simp only[Option.bind_eq_some_iff,Option.map_eq_some_iff,Prod.exists,Prod.mk.injEq] at h
    obtain⟨v,p3,k4,p4,k5,rfl,rfl⟩:=h
    have C:=(B.next s1).next s2
    have s3:=((QI hT A).st C k4).1
    have s4:=(Zt hT s3.lt k5).1
    obtain⟨v',g4,e4⟩:=Ve he _ C _ _ k4
    rw[if_neg cb];simp only[g4,Option.bind_some,k5,Option.map_some]
    exact⟨_,rfl,fun z=>e4 (s4.e0 z)⟩
  ·rename_i cp
   obtain⟨f1,rfl⟩:=zeC k1 (by
    have a1:((1:Int)==t.kind)=false:=by simp;omega
    have a2:((2:Int)==t.kind)=false:=by simp;omega
    have a3:((3:Int)==t.kind)=false:=by simp;omega
    have a4:((4:Int)==t.kind)=false:=by simp;omega
    simp[List.find?_cons,a1,a2,a3,a4]) h
   rw[if_neg cr,if_neg cp,if_neg ct,if_neg cm,f1]
   exact⟨_,rfl,fun _=>rfl⟩
 ·rw[if_neg (YZ c5),if_neg (YZ c5),if_neg (YZ c5),if_neg (YZ c5)] at h
  by_cases c1:t.kind=1
  ·rw[if_pos c1,Jm k1 1 (by decide) (by rw[c1];rfl) (by omega) h];exact⟨_,rfl,fun _=>rfl⟩
  by_cases c2:t.kind=2
  ·rw[if_neg c1,if_pos c2,Jm k1 2 (by decide) (by rw[c2];rfl) (by omega) h];exact⟨_,rfl,fun _=>rfl⟩
  by_cases c3:t.kind=3
  ·rw[if_neg c1,if_neg c2,if_pos c3,Jm k1 4 (by decide) (by rw[c3];rfl) (by omega) h];exact⟨_,rfl,fun _=>rfl⟩
  by_cases c4:t.kind=4
  ·rw[if_neg c1,if_neg c2,if_neg c3,if_pos c4,Jm k1 5 (by decide) (by rw[c4];rfl) (by omega) h];exact⟨_,rfl,fun _=>rfl⟩
  obtain⟨f1,rfl⟩:=zeC k1 (by
   have a1:((1:Int)==t.kind)=false:=by simp;omega
   have a2:((2:Int)==t.kind)=false:=by simp;omega
   have a3:((3:Int)==t.kind)=false:=by simp;omega
   have a4:((4:Int)==t.kind)=false:=by simp;omega
   simp[List.find?_cons,a1,a2,a3,a4]) h
  rw[if_neg c1,if_neg c2,if_neg c3,if_neg c4,if_neg (YZ c5),if_neg (YZ c5),if_neg (YZ c5),if_neg (YZ c5),f1]
  exact⟨_,rfl,fun _=>rfl⟩
theorem zgt {s:Tx} (h:0<(Qn s).1):s∈keysL∧((Qn s).2=1∨(Qn s).2=2):=by
 unfold Qn at h ⊢
 repeat' split at h
 all_goals first
  | (exfalso;revert h;decide)
  | (subst_vars;decide)
theorem zpV (hK:TKS T) {p:PS} {t:Tk} (h:zX T p=some t):(t.kind=6∧0<(Qn t.text).1)↔0<(Yq t).1:=by
 unfold Yq
 by_cases c:t.kind=6
 ·rw[if_pos (.inr c)];simp[c]
 ·by_cases c5:t.kind=5
  ·rw[if_pos (.inl c5)]
   have:=hK.sgn t (ze4 h (by omega)) c5
   refine⟨fun x=>absurd x.1 c,fun x=>absurd (zgt x).1 this⟩
  ·rw[if_neg (by omega)]
   exact⟨fun x=>absurd x.1 c,fun x=>absurd x (by decide)⟩
theorem zfj (hT:TOK T) {e pt g gp:PM Nd} (A:Tot T (m+1) e) (P:Tot T (m+1) pt) (he:Z2 T m (Yt T e) g) (hp:Z2 T m (Yt T pt) gp):∀ (n:Nat) (b:Bool) (nd nd':Nd) (p:PS),Bd T m p→(b=true→p.e=0→nd.kids.length≤4)→(p.e=0→nd'=nd)→zdg (Vv T e pt n b nd p) (zac T g gp n b nd' p)
 | 0,b,nd,nd',p,B,hn,hz=>fun r q h=>by cases h
 | n+1,b,nd,nd',p,B,hn,hz=>fun r q h=>by
  unfold Vv at h;unfold zac
  simp only[Option.bind_eq_some_iff] at h
  obtain⟨t,k1,h⟩:=h
  rw[k1];simp only[Option.bind_some]
  split at h
  rotate_left
  ·rename_i c;cases h;rw[if_neg c];exact⟨_,rfl,hz⟩
  rename_i c
  rw[if_pos c]
  have hk:t.kind≠0:=fun x=>by
   unfold QT isT at c;rw[x] at c;revert c;simp
  have e0:=zbe k1 hk
  obtain rfl:=hz e0
  cases b with
  | true =>
   simp only[if_true,Option.bind_eq_some_iff,Prod.exists] at h ⊢
   obtain⟨p1,k2,x,p2,k3,h⟩:=h
   have s1:=XJ B.lt k2
   have s2:=((Xm hT A P).st (B.next s1) k3).1
   have hl:=hn rfl e0
   by_cases c4:nd'.kids.length=4
   ·rw[zaT (by omega)] at k2
    have hne:=Ys k2 (by decide)
    have s3:=zib hT A P n _ _ _ _ _ ((B.next s1).next s2) h
    rw[if_pos c4,k2]
    obtain rfl:=(s2.trans s3).err hne
    exact⟨_,rfl,fun z=>absurd z hne⟩
   ·obtain rfl:=zbH (by omega) k2
    obtain⟨x',g2,e2⟩:=Vf hT A P he hp _ B _ _ k3
    rw[if_neg c4,g2];simp only[Option.bind_some]
    exact zfj hT A P he hp n true _ _ _ (B.next s2) (fun _ z=>zd3 (by omega)) (fun z=>by rw[e2 z]) _ _ h
  | false =>
   simp only[Bool.false_eq_true,if_false] at h ⊢
   simp only[Option.bind_eq_some_iff,Prod.exists] at h
   obtain⟨x,p2,k3,h⟩:=h
   have s2:=((Xm hT A P).st B k3).1
   obtain⟨x',g2,e2⟩:=Vf hT A P he hp _ B _ _ k3
   rw[g2];simp only[Option.bind_some]
   exact zfj hT A P he hp n false _ _ _ (B.next s2) (fun hb=>by cases hb) (fun z=>by rw[e2 z]) _ _ h
theorem zoF {e pt:PM Nd} {p q:PS} {x:Nd} {t:Tk} (hl:zX T p=some t) (h4:t.kind=4) (h:YU T e pt p=some (x,q)):x.kids=[]:=by
 unfold YU at h
 rw[hl] at h
 have c5:¬ (t.kind=5∨t.kind=6):=by omega
 simp only[Option.bind_some] at h
 rw[if_neg (YZ c5),if_neg (YZ c5),if_neg (YZ c5),if_neg (YZ c5)] at h
 exact zfX h
theorem zrt (hK:TKS T) {e pt g gp:PM Nd} (A:Tot T (m+1) e) (P:Tot T (m+1) pt) (he:Z2 T m (Yt T e) g) (hp:Z2 T m (Yt T pt) gp):Z2 T m (zhp T e pt) (zik T g gp):=by
 have hT:=hK.tok
 intro p B r q h
 unfold zhp at h;unfold zik
 simp only[Option.bind_eq_some_iff] at h
 obtain⟨t,k1,h⟩:=h
 rw[k1];simp only[Option.bind_some]
 have hkr:=zpV hK k1
 by_cases c:t.kind=6∧0<(Qn t.text).1
 ·rw[if_pos c] at h;rw[if_pos (hkr.1 c)]
  have hkk:Yq t=Qn t.text:=by unfold Yq;rw[if_pos (.inr c.1)]
  rw[hkk]
  simp only[Option.bind_eq_some_iff,Prod.exists] at h
  obtain⟨u,p1,k2,h⟩:=h
  obtain⟨g2,rfl⟩:=Qr k1 (by omega) k2
  have s1:=(Xb hT B.lt k2).1
  rw[g2];simp only[Option.bind_some]
  rcases (zgt c.2).2 with h1 | h2
  ·rw[h1] at h ⊢
   simp only[show (1:Int).toNat=0+1 from rfl,Jp,Option.bind_eq_some_iff,Prod.exists] at h
   obtain⟨x,p2,k3,h⟩:=h
   cases h
   obtain⟨x',g3,e3⟩:=Vf hT A P he hp _ (B.next s1) _ _ k3
   rw[g3];simp only[Option.bind_some]
   rw[if_neg (by decide)]
   exact⟨_,rfl,fun z=>by rw[e3 z];rfl⟩
  ·rw[h2] at h ⊢
   simp only[show (2:Int).toNat=0+1+1 from rfl,Jp,Option.bind_eq_some_iff,Prod.exists] at h
   obtain⟨x,p2,k3,y,p3,k4,h⟩:=h
   cases h
   have s2:=((Xm hT A P).st (B.next s1) k3).1
   have s3:=((Xm hT A P).st ((B.next s1).next s2) k4).1
   obtain⟨x',g3,e3⟩:=Vf hT A P he hp _ (B.next s1) _ _ k3
   obtain⟨y',g4,e4⟩:=Vf hT A P he hp _ ((B.next s1).next s2) _ _ k4
   rw[g3];simp only[Option.bind_some]
   simp only[if_true,g4,Option.map_some]
   exact⟨_,rfl,fun z=>by rw[e3 (s3.e0 z),e4 z];rfl⟩
 ·rw[if_neg c] at h;rw[if_neg (fun x=>c (hkr.2 x))]
  simp only[Option.bind_eq_some_iff,Prod.exists] at h
  obtain⟨x,p1,k2,h⟩:=h
  have s1:=((Xm hT A P).st B k2).1
  obtain⟨x',g2,e2⟩:=Vf hT A P he hp _ B _ _ k2
  rw[g2];simp only[Option.bind_some]
  exact zfj hT A P he hp _ _ _ _ _ (B.next s1) (fun hb z=>by rw[zoF k1 (by simpa using hb) k2];exact Nat.zero_le _) e2 _ _ h
theorem zuk (hK:TKS T) {p:PS} {t:Tk} (h:zX T p=some t) {a b c:Tx} (ha:a ∉ keysL∧a≠[]) (hb:b ∉ keysL∧b≠[]) (hc:c ∉ keysL∧c≠[]):(opR t a b c≠[]↔t.kind=5∧t.text∈[a,b,c])∧(t.kind=5∧t.text∈[a,b,c]→opR t a b c=t.text):=by
 have key:t.kind=6→t.text∈keysL:=fun h6=>hK.key t (ze4 h (by omega)) h6
 unfold opR isT
 by_cases h5:t.kind=5
 ·simp only[h5,BEq.rfl,Bool.true_or,Bool.true_and,beq_iff_eq,List.mem_cons,List.not_mem_nil,or_false,true_and]
  by_cases c1:t.text=a
  ·simp[c1,ha.2]
  by_cases c2:t.text=b
  ·simp[c1,c2,hb.2];split <;> simp_all
  by_cases c3:t.text=c
  ·simp[c1,c2,c3,hc.2];split <;> (try split) <;> simp_all
  ·simp[c1,c2,c3]
 ·by_cases h6:t.kind=6
  ·have hk:=key h6
   have n1:(t.text==a)=false:=by simp;rintro rfl;exact ha.1 hk
   have n2:(t.text==b)=false:=by simp;rintro rfl;exact hb.1 hk
   have n3:(t.text==c)=false:=by simp;rintro rfl;exact hc.1 hk
   simp[n1,n2,n3,h5]
  ·have q5:(t.kind==5)=false:=by simp[h5]
   have q6:(t.kind==6)=false:=by simp[h6]
   simp[q5,q6,h5]
theorem zgY (hK:TKS T) {f g:PM Nd} (A:Tot T m f) (hf:Z2 T m f g) {a b c:Tx} (ha:a ∉ keysL∧a≠[]) (hb:b ∉ keysL∧b≠[]) (hc:c ∉ keysL∧c≠[]):∀ (n:Nat) (t:Tk) (nd nd':Nd) (p:PS),Bd T m p→zX T p=some t→(p.e=0→nd'=nd)→zdg (za4 T f [a,b,c] n t nd p) (VA T g a b c n nd' p)
 | 0,t,nd,nd',p,B,hl,hn=>fun r q h=>by cases h
 | n+1,t,nd,nd',p,B,hl,hn=>fun r q h=>by
  have ho:=zuk hK hl ha hb hc
  unfold za4 at h;unfold VA
  rw[hl];simp only[Option.bind_some]
  by_cases cc:t.kind=5∧t.text∈[a,b,c]
  ·rw[if_pos cc] at h;rw[if_pos (ho.1.2 cc),ho.2 cc]
   simp only[Option.bind_eq_some_iff,Prod.exists] at h
   obtain⟨u,p1,k1,x,p2,k2,t',k3,h⟩:=h
   obtain⟨g1,rfl⟩:=Qr hl (by omega) k1
   have s1:=(Xb hK.tok B.lt k1).1
   have s2:=(A.st (B.next s1) k2).1
   obtain⟨x',g2,e2⟩:=hf _ (B.next s1) _ _ k2
   obtain rfl:=hn (zbe hl (by omega))
   rw[g1];simp only[Option.bind_some,g2]
   exact zgY hK A hf ha hb hc n t' _ _ p2 ((B.next s1).next s2) k3 (fun z=>by rw[e2 z]) _ _ h
  ·rw[if_neg cc] at h;rw[if_neg (fun x=>cc (ho.1.1 x))]
   cases h;exact⟨_,rfl,hn⟩
theorem ziN (hK:TKS T) {f g:PM Nd} (A:Tot T m f) (hf:Z2 T m f g) {a b c:Tx} (ha:a ∉ keysL∧a≠[]) (hb:b ∉ keysL∧b≠[]) (hc:c ∉ keysL∧c≠[]):Z2 T m (za9 T f [a,b,c]) (zdh T g a b c):=by
 intro p B r q h
 unfold za9 at h;unfold zdh
 simp only[Option.bind_eq_some_iff,Prod.exists] at h
 obtain⟨x,p1,k1,t,k2,h⟩:=h
 obtain⟨x',g1,e1⟩:=hf _ B _ _ k1
 rw[g1];simp only[Option.bind_some]
 exact zgY hK A hf ha hb hc _ t _ _ p1 (B.next (A.st B k1).1) k2 e1 _ _ h
theorem zlH (hK:TKS T) {e pt g gp:PM Nd} (A:Tot T (m+1) e) (P:Tot T (m+1) pt) (he:Z2 T m (Yt T e) g) (hp:Z2 T m (Yt T pt) gp):Z2 T m (znX T e pt) (zrw T g gp) :=
 ziN hK (zeL hK.tok (zh0 hK.tok A P)) (ziN hK (zh0 hK.tok A P) (zrt hK A P he hp) (by decide) (by decide) (by decide)) (by decide) (by decide) (by decide)
theorem zsa (hK:TKS T) {e pt g gp:PM Nd} (A:Tot T (m+1) e) (P:Tot T (m+1) pt) (he:Z2 T m (Yt T e) g) (hp:Z2 T m (Yt T pt) gp):Z2 T m (zhK T e pt) (zfr T g gp):=by
 have hT:=hK.tok
 intro p B r q h
 unfold zhK at h;unfold zfr
 simp only[Option.bind_eq_some_iff,Prod.exists] at h
 obtain⟨x,p1,k1,t,k2,h⟩:=h
 obtain⟨x',g1,e1⟩:=zlH hK A P he hp _ B _ _ k1
 have s1:=((zdX hT A P).st B k1).1
 rw[g1];simp only[Option.bind_some,k2]
 have ho:(isT t [61]=true∨isT t [60]=true↔opR t [61] [60] [61]≠[])∧(isT t [61]=true∨isT t [60]=true→opR t [61] [60] [61]=t.text):=by
  unfold opR
  by_cases c1:isT t [61]=true
  ·rw[if_pos c1];exact⟨⟨fun _=>by decide,fun _ =>.inl c1⟩,fun _=>(Z5.1 c1).2.symm⟩
  ·rw[if_neg c1]
   by_cases c2:isT t [60]=true
   ·rw[if_pos c2];exact⟨⟨fun _=>by decide,fun _ =>.inr c2⟩,fun _=>(Z5.1 c2).2.symm⟩
   ·rw[if_neg c2,if_neg c1];exact⟨⟨fun x=>absurd x (by simp[c1,c2]),fun x=>absurd rfl x⟩,fun x=>absurd x (by simp[c1,c2])⟩
 by_cases c:isT t [61]=true∨isT t [60]=true
 ·rw[if_pos c] at h;rw[if_pos (ho.1.1 c),ho.2 c]
  simp only[Option.bind_eq_some_iff,Option.map_eq_some_iff,Prod.exists,Prod.mk.injEq] at h
  obtain⟨u,p2,k3,y,p3,k4,rfl,rfl⟩:=h
  have hk:t.kind≠0:=c.elim XH XH
  have s2:=(Xb hT s1.lt k3).1
  have B2:=(B.next s1).next s2
  have s3:=((zdX hT A P).st B2 k4).1
  obtain⟨y',g4,e4⟩:=zlH hK A P he hp _ B2 _ _ k4
  rw[(Qr k2 hk k3).1];simp only[Option.bind_some,g4,Option.map_some]
  exact⟨_,rfl,fun z=>by rw[e4 z,e1 (s2.e0 (s3.e0 z))]⟩
 ·rw[if_neg c] at h;rw[if_neg (fun x=>c (ho.1.2 x))]
  cases h;exact⟨_,rfl,e1⟩
theorem zfY (hT:TOK T) {e g:PM Nd} (A:Tot T (m+1) e) (he:Z2 T m (Yt T e) g) {p q:PS} {x:Tx} {rc:Bool} {v:Nd} (B:Bd T m p) (h:YB T e p=some ((x,rc,v),q)):∃ v',J0 T g p=some ((x,rc,v'),q)∧(q.e=0→v'=v):=by
 obtain⟨p1,t,p2,p3,p4,k1,k2,rfl,k3,k4,k5⟩:=zfW h
 have s1:=Vu hT B.lt k1
 obtain⟨s2,_⟩:=VU hT s1.lt (by decide) k2
 have s3:=(Zt hT s2.lt k3).1
 have s4:=zqG s3.lt k4
 have C:=(((B.next s1).next s2).next s3).next s4
 obtain⟨v',g5,e5⟩:=he _ C _ _ k5
 obtain⟨f,kf,_⟩:=za3 (T:=T) s3.lt [102,117,110]
 have hrec:(if rc=true∧¬ f=true∧p3.deep<40 then Zc T 14 p3 else some p3)=some p4:=by
  by_cases c1:rc=true∧p3.deep<40
  ·rw[if_pos c1,kf] at k4
   simp only[Option.bind_some] at k4
   cases f with
   | true=>rw[if_neg (by simp)];simpa using k4
   | false=>rw[if_pos ⟨c1.1,by simp,c1.2⟩];simpa using k4
  ·rw[if_neg c1] at k4
   rw[if_neg (fun x=>c1 ⟨x.1,x.2.2⟩)];exact k4
 unfold J0 Jt
 rw[k1];simp only[Option.bind_some,k2,Option.map_some,k3,kf]
 rw[hrec];simp only[Option.bind_some,g5,Option.map_some]
 exact⟨_,rfl,e5⟩
theorem isK (hK:TKS T) {p:PS} {t:Tk} (h:zX T p=some t) {s:Tx} (hs:s∈keysL):(t.kind=6∧t.text=s)↔isT t s=true:=by
 rw[Z5]
 refine⟨fun x=>⟨.inr x.1,x.2⟩,fun x=>?_⟩
 rcases x.1 with h5 | h6
 ·exact absurd (x.2▸hs) (hK.sgn t (ze4 h (by omega)) h5)
 ·exact⟨h6,x.2⟩
theorem znT (hK:TKS T) {e pt g gp:PM Nd} (A:Tot T (m+1) e) (P:Tot T (m+1) pt) (he:Z2 T m (Yt T e) g) (hp:Z2 T m (Yt T pt) gp):Z2 T m (zh2 T e pt) (ze3 T g gp):=by
 have hT:=hK.tok
 intro p B r q h
 unfold zh2 at h;unfold ze3
 simp only[Option.bind_eq_some_iff] at h
 obtain⟨t,k0,h⟩:=h
 rw[k0];simp only[Option.bind_some]
 have i1:=isK hK k0 (s:=[108,101,116]) (by decide)
 have i2:=isK hK k0 (s:=[102,117,110]) (by decide)
 have i3:=isK hK k0 (s:=[105,102]) (by decide)
 by_cases c1:t.kind=6∧t.text=[108,101,116]
 ·rw[if_pos c1] at h;rw[if_pos (i1.1 c1)]
  unfold zkO at h
  simp only[Option.bind_eq_some_iff,Option.map_eq_some_iff,Prod.exists,Prod.mk.injEq] at h
  obtain⟨u,p1,k1,x,rc,v,p2,k2,p3,k3,w,p4,k4,rfl,rfl⟩:=h
  obtain⟨g1,rfl⟩:=Qr k0 (by omega) k1
  have s1:=(Xb hT B.lt k1).1
  have s2:=(zjt hT A (B.next s1) k2).1
  have s3:=(Zt hT s2.lt k3).1
  have C:=((B.next s1).next s2).next s3
  have s4:=((Z6 hT A).st C k4).1
  obtain⟨v',g2,e2⟩:=zfY hT A he (B.next s1) k2
  obtain⟨w',g4,e4⟩:=he _ C _ _ k4
  rw[g1];simp only[Option.bind_some,g2,k3,g4,Option.map_some]
  exact⟨_,rfl,fun z=>by rw[e4 z,e2 (s3.e0 (s4.e0 z))]⟩
 rw[if_neg c1] at h;rw[if_neg (fun x=>c1 (i1.2 x))]
 by_cases c2:t.kind=6∧t.text=[102,117,110]
 ·rw[if_pos c2] at h;rw[if_pos (i2.1 c2)]
  unfold zkt at h
  simp only[Option.bind_eq_some_iff,Option.map_eq_some_iff,Prod.exists,Prod.mk.injEq] at h
  obtain⟨u,p1,k1,x,p2,k2,p3,k3,w,p4,k4,rfl,rfl⟩:=h
  obtain⟨g1,rfl⟩:=Qr k0 (by omega) k1
  have s1:=(Xb hT B.lt k1).1
  have s2:=(VU hT s1.lt (by decide) k2).1
  have s3:=(Zt hT s2.lt k3).1
  have C:=((B.next s1).next s2).next s3
  obtain⟨w',g4,e4⟩:=he _ C _ _ k4
  unfold Jt
  rw[g1];simp only[Option.bind_some,k2,k3,g4,Option.map_some]
  exact⟨_,rfl,fun z=>by rw[e4 z]⟩
 rw[if_neg c2] at h;rw[if_neg (fun x=>c2 (i2.2 x))]
 by_cases c3:t.kind=6∧t.text=[105,102]
 ·rw[if_pos c3] at h;rw[if_pos (i3.1 c3)]
  unfold VB at h
  simp only[Option.bind_eq_some_iff,Option.map_eq_some_iff,Prod.exists,Prod.mk.injEq] at h
  obtain⟨u,p1,k1,x,p2,k2,p3,k3,y,p4,k4,p5,k5,w,p6,k6,rfl,rfl⟩:=h
  obtain⟨g1,rfl⟩:=Qr k0 (by omega) k1
  have s1:=(Xb hT B.lt k1).1
  have s2:=((Z6 hT A).st (B.next s1) k2).1
  have s3:=(Zt hT s2.lt k3).1
  have C:=((B.next s1).next s2).next s3
  have s4:=((Z6 hT A).st C k4).1
  have s5:=(Zt hT s4.lt k5).1
  have D:=(C.next s4).next s5
  have s6:=((Z6 hT A).st D k6).1
  obtain⟨x',g2,e2⟩:=he _ (B.next s1) _ _ k2
  obtain⟨y',g4,e4⟩:=he _ C _ _ k4
  obtain⟨w',g6,e6⟩:=he _ D _ _ k6
  rw[g1];simp only[Option.bind_some,g2,k3,g4,k5,g6,Option.map_some]
  exact⟨_,rfl,fun z=>by
   have z4:=s5.e0 (s6.e0 z)
   rw[e6 z,e4 z4,e2 (s3.e0 (s4.e0 z4))]⟩
 rw[if_neg c3] at h;rw[if_neg (fun x=>c3 (i3.2 x))]
 simp only[Option.bind_eq_some_iff,Prod.exists] at h
 obtain⟨x,p1,k1,b,p2,k2,h⟩:=h
 have s1:=((zmF hT A P).st B k1).1
 obtain⟨x',g1,e1⟩:=zsa hK A P he hp _ B _ _ k1
 rw[g1];simp only[Option.bind_some]
 by_cases cf:p1.flat=true
 ·rw[if_pos cf] at k2;cases k2
  obtain⟨b,kb,_⟩:=za3 (T:=T) s1.lt [59]
  rw[kb];simp only[Option.bind_some]
  rw[if_neg (by simp[cf])]
  cases h;exact⟨_,rfl,e1⟩
 ·rw[if_neg cf] at k2
  obtain⟨_,_,_,g2,g3,g4⟩:=VT k2
  rw[g2];simp only[Option.bind_some]
  have s2:=Vu hT s1.lt k2
  cases b with
  | true =>
   simp only[if_true,Option.map_eq_some_iff,Prod.exists,Prod.mk.injEq] at h
   obtain⟨w,p3,k3,rfl,rfl⟩:=h
   have C:=(B.next s1).next s2
   have s3:=((Z6 hT A).st C k3).1
   obtain⟨w',g5,e5⟩:=he _ C _ _ k3
   rw[if_pos ⟨rfl,cf⟩,(g3 rfl).1];simp only[Option.bind_some,g5,Option.map_some]
   exact⟨_,rfl,fun z=>by rw[e5 z,e1 (s2.e0 (s3.e0 z))]⟩
  | false =>
   obtain rfl:=g4 rfl
   rw[if_neg (by simp)]
   cases h;exact⟨_,rfl,e1⟩
theorem zjy (hK:TKS T):∀ (n m:Nat),42≤m+n→Z2 T m (Yt T (zlu T n)) (Ym T (zto T n))
 | 0,m,h=>J5 zes
 | n+1,m,h=>J5 (znT hK (zco hK.tok n (m+2) (by omega)) (zcm hK.tok (n+1) (m+2) (by omega)) (zjy hK n (m+1) (by omega)) (zja hK.tok (n+1) (m+1) (by omega)))
theorem zpi (hT:TOK T) {e ty g gt:PM Nd} (A:Tot T (m+1) e) (Y:Tot T (m+1) ty) (he:Z2 T m (Yt T e) g) (hy:Z2 T m (Yt T ty) gt) {p:PS} (B:Bd T m p) {t:Tk} (hl:zX T p=some t) (hk:t.kind≠0):zdg (zah T e ty p) (zjo T g gt p):=by
 intro r q h
 unfold zah at h;unfold zjo
 simp only[Option.bind_eq_some_iff,Option.map_eq_some_iff,Prod.exists,Prod.mk.injEq] at h
 obtain⟨b,kb,x,p1,h,p2,k2,rfl,rfl⟩:=h
 rw[kb];simp only[Option.bind_some]
 cases b with
 | true =>
  simp only[if_true] at h
  unfold Xs at h
  simp only[Option.bind_eq_some_iff,Prod.exists] at h
  obtain⟨u,a1,j1,w,a2,j2,n,a3,j3,a4,j4,h⟩:=h
  obtain⟨g1,rfl⟩:=Qr hl hk j1
  have s1:=(Xb hT B.lt j1).1
  have s2:=(VU hT s1.lt (by decide) j2).1
  have C:=(B.next s1).next s2
  have s3:=zcQ hT _ _ _ _ _ C j3
  have s4:=(Zt hT s3.lt j4).1
  have D:=(C.next s3).next s4
  have s5:=zi2 hT Y _ _ _ _ _ _ D h
  have s6:=(Zt hT s5.lt k2).1
  have hkid:n.kids=[]:=by
   have:∀ (k:Nat) (nd:Nd) (p:PS) (r:Nd) (q:PS),nd.kids=[]→Yh T k nd p=some (r,q)→r.kids=[]:=by
    intro k
    induction k with
    | zero=>intro nd p r q _ h;cases h
    | succ k ih =>
     intro nd p r q hn h
     unfold Yh at h
     simp only[Option.bind_eq_some_iff] at h
     obtain⟨t,_,h⟩:=h
     split at h
     ·simp only[Option.bind_eq_some_iff,Prod.exists] at h
      obtain⟨_,_,u,_,_,h⟩:=h
      exact ih _ _ _ _ (by rw[zbR];exact hn) h
     ·cases h;exact hn
   exact this _ _ _ _ _ rfl j3
  obtain⟨n',g3,e3⟩:=zem hT _ _ (zR 25 u.pos w.text []) a2 C (fun _=>⟨rfl,by simp[zR,Nd.names]⟩) _ _ j3
  obtain⟨x',g5,e5⟩:=zf8 hT Y hy _ true _ n' a4 D (fun z=>⟨e3 (s4.e0 z),by rw[hkid];simp⟩) _ _ h
  unfold zlQ Jt
  rw[g1];simp only[Option.bind_some,if_true,j2,Option.map_some,g3,j4,g5,k2]
  exact⟨_,rfl,fun z=>e5 (s6.e0 z)⟩
 | false =>
  simp only[Bool.false_eq_true,if_false,Option.bind_eq_some_iff,Option.map_eq_some_iff,Prod.exists,Prod.mk.injEq] at h
  obtain⟨u,a1,j1,y,rc,v,a2,j2,rfl,rfl⟩:=h
  obtain⟨g1,rfl⟩:=Qr hl hk j1
  have s1:=(Xb hT B.lt j1).1
  have C:=zlV (B.next s1) true
  have s2:=(zjt hT A C j2).1
  have s3:=(Zt hT (p:={ a2 with flat:=false }) s2.lt k2).1
  obtain⟨v',g2,e2⟩:=zfY hT A he C j2
  rw[g1];simp only[Option.bind_some,Bool.false_eq_true,if_false,g2,Option.map_some,k2]
  exact⟨_,rfl,fun z=>by rw[e2 (s3.e0 z)]⟩
theorem zgI (hT:TOK T) {e ty g gt:PM Nd} (A:Tot T (m+1) e) (Y:Tot T (m+1) ty) (he:Z2 T m (Yt T e) g) (hy:Z2 T m (Yt T ty) gt):∀ (n:Nat) (nd nd':Nd) (p:PS),Bd T m p→p.flat=false→(p.e=0→nd'=nd∧nd.kids.length≤60)→zdg (Vo T e ty n nd p) (zc1 T g gt n nd' p)
 | 0,nd,nd',p,B,hf,hn=>fun r q h=>by cases h
 | n+1,nd,nd',p,B,hf,hn=>fun r q h=>by
  obtain⟨a,b,k1,k2,h⟩:=zfV h
  obtain⟨t,hl,ra⟩:=zed k1
  unfold zc1
  rw[hl];simp only[Option.bind_some]
  have hb:(isT t [116,121,112,101]=true∨isT t [108,101,116]=true)↔b=true:=by
   rw[←ra]
   cases a with
   | true=>simp only[if_true,Option.some.injEq] at k2;subst k2;simp
   | false =>
    simp only[Bool.false_eq_true,if_false] at k2
    obtain⟨t',hl',rb⟩:=zed k2
    rw[hl] at hl';cases hl'
    rw[←rb];simp
  rcases h with⟨rfl,rfl,rfl⟩ | ⟨rfl,p1,x,p2,k3,k4,h'⟩
  ·rw[if_neg (fun x=>absurd (hb.1 x) (by decide))]
   exact⟨_,rfl,fun z=>(hn z).1⟩
  ·have hor:=hb.2 rfl
   have hk:t.kind≠0:=hor.elim XH XH
   obtain⟨rfl,hlen⟩:=hn (zbe hl hk)
   rw[if_pos hor]
   have s1:=XJ B.lt k3
   have s2:=zsT hT A Y (B.next s1) (s1.flat.trans hf) k4
   by_cases c:nd'.kids.length=60
   ·rw[zaT (by omega)] at k3
    have hne:=Ys k3 (by decide)
    obtain⟨nd2,q2,y1,y2,y3⟩:=zbX hT A Y (a:=0) n (nd'.addKid x) p2 s2.lt ((B.next s1).next s2).lo ((B.next s1).next s2).hi (s2.flat.trans (s1.flat.trans hf)) ⟨by
     cases n with
     | zero=>cases h'
     | succ n=>omega,fun z=>absurd (s2.e0 z) hne⟩ (fun z=>absurd (s2.e0 z) hne)
    rw[y1] at h';cases h'
    rw[if_pos c,k3]
    obtain rfl:=(s2.trans y2).err hne
    exact⟨_,rfl,fun z=>absurd z hne⟩
   ·obtain rfl:=zbH (by omega) k3
    obtain⟨x',g2,e2⟩:=zpi hT A Y he hy B hl hk _ _ k4
    rw[if_neg c,g2];simp only[Option.bind_some]
    exact zgI hT A Y he hy n _ _ _ (B.next s2) (s2.flat.trans hf) (fun z=>⟨by rw[e2 z],zd3 (by omega)⟩) _ _ h'
theorem znZ (hK:TKS T) {n:Nd} {b e:Int} (h:VP T=some (n,b,e)):zdY T=some (n,b,e):=by
 have hT:=hK.tok
 unfold VP at h
 simp only[Option.map_eq_some_iff,Prod.exists] at h
 obtain⟨r,q,h,hr⟩:=h
 unfold zcp at h
 simp only[Option.bind_eq_some_iff,Option.map_eq_some_iff,Prod.exists,Prod.mk.injEq] at h
 obtain⟨t,k1,x,p1,k2,p2,k3,u,p3,k4,t',k5,p4,k6,rfl,rfl⟩:=h
 have B:Bd T 0 ⟨0,0,false,0,0⟩:=⟨hT.pos,Nat.le_refl _,Nat.zero_le _⟩
 have A:=zco hT 42 1 (by omega)
 have Y:=zd1 hT 42 1 (by omega)
 have he:=zjy hK 42 0 (by omega)
 have hy:=zmt hT 42 0 (by omega)
 obtain⟨x',g2,e2⟩:=zgI hT A Y he hy _ _ (zR 30 t.pos [] []) _ B rfl (fun _=>⟨rfl,by simp[zR,Nd.kids]⟩) _ _ k2
 have s2:Step T ⟨0,0,false,0,0⟩ p1:=by
  obtain⟨nd2,q2,y1,y2,y3⟩:=zbX hT A Y (a:=plc T 0) (T.length+2) (zR 30 t.pos [] []) ⟨0,0,false,0,0⟩ B.lt B.lo B.hi rfl (zbO (p:=⟨0,0,false,0,0⟩)) (fun _=>by
   have hg:T[0]?=some t:=by unfold zX at k1;rw[if_pos rfl] at k1;exact k1
   have hp:=Z1 (p:=⟨0,0,false,0,0⟩) hg
   exact⟨zhl ⟨t,hp.2,rfl⟩ (fun c hc=>by cases hc) (by simp),by rw[←hp.1];exact Int.le_refl _,by rw[←hp.1];exact Int.le_refl _,by simp[zR,Nd.kids],by simp[zR,Nd.names]⟩)
  rw[k2] at y1;cases y1;exact y2
 have s3:=(Zt hT s2.lt k3).1
 have C:=(B.next s2).next s3
 have s4:=((Z6 hT A).st C k4).1
 obtain⟨u',g4,e4⟩:=he _ C _ _ k4
 have s6:Step T p3 p4:=by
  split at k6
  ·exact zg2 s4.lt k6
  ·cases k6;exact .refl s4.lt
 unfold zdY zmj atR
 rw[k1];simp only[Option.map_some,Option.bind_some,g2,k3,g4,k5,k6]
 by_cases z:p4.e=0
 ·rw[if_pos z] at hr ⊢
  have z3:=s6.e0 z
  rw[e4 z3,e2 (s3.e0 (s4.e0 z3)),hr]
 ·rw[if_neg z] at hr ⊢
  rw[hr]
end Go.AL
namespace Go.AL
theorem zqB:∀ c∈signsL,[c] ∉ keysL:=by decide
theorem zr6 {w:Tx} {p:Int} {t:Tk} {n:Nat} (h:Yl w p = .ok (t,n)):(t.kind=6→t.text∈keysL)∧(t.kind=5→t.text ∉ keysL):=by
 unfold Yl at h
 split at h
 ·cases h
 rename_i c r
 split at h
 ·split at h
  ·cases h
  ·cases h;exact⟨fun x=>by simp at x,fun x=>by simp at x⟩
 split at h
 ·split at h
  ·cases h
  ·cases h;exact⟨fun x=>by simp at x,fun x=>by simp at x⟩
 split at h
 ·split at h
  ·cases h
  ·cases h
   refine⟨fun x=>?_,fun x=>?_⟩
   ·dsimp only at x ⊢
    split at x
    ·omega
    ·split at x
     ·assumption
     ·omega
   ·dsimp only at x
    split at x
    ·omega
    ·split at x <;> omega
 split at h
 ·rename_i hs
  split at h
  ·cases h;exact⟨fun x=>by simp at x,fun _=>by show ([45,62]:Tx) ∉ keysL;decide⟩
  ·cases h;exact⟨fun x=>by simp at x,fun _=>zqB c hs⟩
 ·cases h
theorem zvm {s:Tx} {k:Nat} {T:List Tk} (h:Lx s k T):TKS T:=by
 have key:∀ t∈T,(t.kind=6→t.text∈keysL)∧(t.kind=5→t.text ∉ keysL):=by
  induction h with
  | nil=>intro t ht;simp only[List.mem_singleton] at ht;subst ht;exact⟨fun x=>by simp at x,fun x=>by simp at x⟩
  | cons h1 h2 _ ih =>
   intro t ht
   rcases List.mem_cons.1 ht with rfl | ht
   ·exact zr6 h2
   ·exact ih t ht
 exact⟨(zok h).1,fun t ht=>(key t ht).1,fun t ht=>(key t ht).2⟩
theorem zdC (n c:Nd):(n.addKid c).kind=n.kind:=by cases n;rfl
theorem zei {T:List Tk} {e ty:PM Nd}:∀ (n:Nat) (nd r:Nd) (p q:PS),Vo T e ty n nd p=some (r,q)→r.kind=nd.kind
 | 0,nd,r,p,q,h=>by cases h
 | n+1,nd,r,p,q,h=>by
  obtain⟨a,b,_,_,h⟩:=zfV h
  rcases h with⟨_,rfl,_⟩ | ⟨_,p1,c,p2,_,_,h⟩
  ·rfl
  ·rw[zei n _ _ _ _ h,zdC]
theorem zhB {s:Tx} {n:Nd} {a e:Int} (h:qP s=some (n,a,e)):(e=0→n.kind=30)∧(e≠0→n=JH):=by
 unfold qP at h
 cases hl:YQ s with
 | error x =>
  obtain⟨b,f⟩:=x
  rw[hl] at h
  cases h
  exact⟨fun z=>absurd z (zbP hl),fun _=>rfl⟩
 | ok T =>
  rw[hl] at h
  dsimp only at h
  unfold VP at h
  simp only[Option.map_eq_some_iff,Prod.exists] at h
  obtain⟨r,q,h,hr⟩:=h
  unfold zcp at h
  simp only[Option.bind_eq_some_iff,Option.map_eq_some_iff,Prod.exists,Prod.mk.injEq] at h
  obtain⟨t,k1,x,p1,k2,p2,k3,u,p3,k4,t',k5,p4,k6,rfl,rfl⟩:=h
  by_cases z:p4.e=0
  ·rw[if_pos z] at hr
   cases hr
   exact⟨fun _=>by rw[zdC,zei _ _ _ _ _ k2];rfl,fun x=>absurd rfl x⟩
  ·rw[if_neg z] at hr
   cases hr
   exact⟨fun x=>absurd x z,fun _=>rfl⟩
theorem zi6 {s:Tx} {n:Nd} {a e:Int} (h:qP s=some (n,a,e)):(∃ b,YQ s = .error (b,e)∧a=b∧n=JH∧e≠0)∨∃ T,YQ s = .ok T∧T.length≤2001∧zdY T=some (n,a,e):=by
 unfold qP at h
 cases hl:YQ s with
 | error x =>
  obtain⟨b,f⟩:=x
  rw[hl] at h
  cases h
  exact .inl ⟨b,rfl,rfl,rfl,zbP hl⟩
 | ok T =>
  rw[hl] at h
  exact .inr ⟨T,rfl,zfB hl,znZ (zvm (zd5 hl).1) h⟩
mutual
theorem zgv:∀ n:Nd,qK n n=true
 | .mk k t m a ns ks=>by
  show (decide (k=k)&&decide (t=t)&&decide (m=m)&&decide (ns=ns)&&qb ks ks)=true
  simp[zff ks]
theorem zff:∀ l:List Nd,qb l l=true
 | []=>rfl
 | n::r=>by
  show (qK n n&&qb r r)=true
  rw[zgv n,zff r];rfl
end
end Go.AL
