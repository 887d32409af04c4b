/- The document's parser does as the program's: types, declarations of types, patterns. -/
import Derived.Test.YtkokccjfpebomaaGreatDoorS7
import Derived.Test.YtkokccjfpebomaaGreatDoorN9
set_option linter.all false
namespace Go.AL
variable {T:List Tk} {m:Nat}
structure TKS (T:List Tk):Prop where
 tok:TOK T
 key:∀ t∈T,t.kind=6→t.text∈keysL
 sgn:∀ t∈T,t.kind=5→t.text ∉ keysL
def EP(x y:Option (Nd×PS)):Prop:=∀ r q,x=some (r,q)→∃ r',y=some (r',q)∧(q.e=0→r'=r)
def Qr(T:List Tk)(m:Nat)(F G:PM Nd):Prop:=∀ p:PS,Bd T m p→EP (F p) (G p)
theorem U'{p:PS}{t:Tk}(h:zH T p=some t)(hk:t.kind≠0):p.e=0:=by
 by_cases c:p.e=0
 ·exact c
 ·unfold zH at h;rw[if_neg c] at h;cases h;exact absurd rfl hk
theorem kM{p:PS}{t:Tk}(h:zH T p=some t)(c:¬ p.e=0):t=F6:=by
 unfold zH at h;rw[if_neg c] at h;cases h;rfl
theorem BZ{p:PS}{t:Tk}(h:zH T p=some t)(hk:t.kind≠0):t∈T:=by
 have c:=U' h hk;unfold zH at h;rw[if_pos c] at h;exact List.mem_of_getElem? h
theorem QP{p q:PS}{t u:Tk}(h:zH T p=some t)(hk:t.kind≠0)(ht:ZR T p=some (u,q)):ZD T p=some (t,q)∧u=t:=by
 have he:=U' h hk;have h2:=(Ua ht).1;rw[h] at h2;cases h2;refine⟨?_,rfl⟩;unfold ZD;unfold ZR at ht;rw[h] at ht ⊢;simp only[xmS,he,hk,ne_eq,not_false_eq_true,and_self,if_true,xsJ,xpJ] at ht;obtain⟨_,rfl⟩:=ht;simp only[xmS,hk,if_false,he]
theorem Kq{p q:PS}{s:Tx}{b:Bool}(k:Xd T s p=some (b,q)):∃ t,zH T p=some t∧isT t s=b∧Yj T s p=some b∧(b=true→ZD T p=some (t,q)∧p.e=0)∧(b=false→q=p):=by
 obtain⟨t,h1,h2,h3⟩:=lC k;refine⟨t,h1,h2.symm,by unfold Yj;rw[h1,h2];rfl,fun hb=>?_,fun hb=>?_⟩
 ·rw[if_pos hb] at h3;have hk:=Yo (h2.symm.trans hb);exact⟨(QP h1 hk h3).1,U' h1 hk⟩
 ·rw[hb] at h3;simpa using h3
theorem gF{p q:PS}{s:Tx}{t:Tk}(h:zH T p=some t)(hs:isT t s=true)(k:qy T s p=some q):ZD T p=some (t,q):=by
 obtain⟨b,q',h1,h2⟩:=bd k;obtain⟨t',g1,g2,_,g3,_⟩:=Kq h1;rw[h] at g1;cases g1;rw[hs] at g2;subst g2;rw[if_pos rfl] at h2;subst h2;exact (g3 rfl).1
theorem pi{p q:PS}{k:Int}{t u:Tk}(h:zH T p=some u)(k1:Qy T k p=some (t,q))(z:q.e=0):t=u:=by
 obtain⟨v,p1,h1,h2,h3⟩:=Gz k1;rw[h] at h1;cases h1;have ht:=Ua h3;by_cases c:u.kind=k
 ·rw[if_neg (by simp[c])] at h2;subst h2;rw[h] at ht;exact (Option.some.inj ht.1).symm
 ·rw[if_pos c] at h2;have hne:=Qb h2 (by decide);have hq:=ht.2;rw[if_neg (fun x=>hne x.1)] at hq;subst hq;exact absurd z hne
theorem ud{n N:Nat}{p:PS}(h:n≤N):HZ T (n=N) p=ZO T n N p:=by
 unfold HZ ZO;by_cases c:n=N
 ·rw[if_pos c,if_pos (by omega)]
 ·rw[if_neg c,if_neg (by omega)]
theorem L8{n M:Int}{p q:PS}(h:ZO T n M p=some q)(z:q.e=0):n<M:=by
 unfold ZO at h;split at h
 ·exact absurd z (Qb h (by decide))
 ·omega
theorem Ur{n M:Int}{p:PS}(h:M≤n):ZO T n M p=Zq T 16 p:=by unfold ZO;rw[if_pos h]
theorem Hs{n M:Int}{p q:PS}(h:n<M)(k:ZO T n M p=some q):q=p:=by unfold ZO at k;rw[if_neg (by omega)] at k;exact (Option.some.inj k).symm
theorem WE{e g:PM Nd}(he:Qr T (m+1) e g):Qr T m (Yn T e) (Y9 T g):=by
 intro p B r q h;unfold Yn at h;have hi:=B.hi;have hc:(40≤p.deep)=(p.deep=40):=propext ⟨fun h=>by omega,fun h=>by omega⟩;simp only[hc,xoB] at h;obtain⟨p1,h1,h⟩:=h;unfold Y9;rw[if_neg (by omega),h1];simp only[xbS];by_cases c:p1.e≠0
 ·rw[if_pos c] at h ⊢;cases h;exact⟨_,rfl,fun _=>rfl⟩
 ·rw[if_neg c] at h ⊢;have h40:¬ p.deep=40:=fun x=>by
   rw[if_pos x] at h1;exact c (Qb h1 (by decide))
  rw[if_neg h40] at h1;cases h1;simp only[xoB,xpX] at h;obtain⟨x,p2,k2,h⟩:=h;obtain⟨x',g1,g2⟩:=he _ (OX B (by omega)) _ _ k2;rw[g1];simp only[xbS];split at h
  ·cases h
  ·rename_i c2;cases h;rw[if_neg c2];exact⟨x',rfl,fun z=>g2 z⟩
theorem Gq{G:PM Nd}:Qr T m (fun _=>none) G:=fun p B r q h=>by cases h
theorem jv(hT:TOK T){e g:PM Nd}(A:Tot T (m+1) e)(he:Qr T m (Yn T e) g):∀ (n:Nat) (nd nd':Nd) (p:PS),Bd T m p→(p.e=0→nd'=nd)→EP (va T e n nd p) (kE T g n nd' p)
 | 0,nd,nd',p,B,hn=>fun r q h=>by cases h
 | n+1,nd,nd',p,B,hn=>fun r q h=>by
  unfold va at h;simp only[xoB] at h;obtain⟨t,k1,h⟩:=h;by_cases c0:p.e=0
  rotate_left
  ·have ht:=kM k1 c0;subst ht;rw[if_neg (by decide)] at h;simp only[xoB] at h;obtain⟨b,k2,h⟩:=h;have hb:b=false:=by unfold Yj at k2;rw[k1] at k2;cases k2;rfl
   subst hb;cases h;exact⟨nd',by unfold kE;rw[if_neg c0],fun z=>absurd z c0⟩
  obtain rfl:=hn c0;unfold kE;rw[if_pos c0,k1];simp only[xbS];split at h
  ·rename_i c;simp only[xoB,xpX] at h;obtain⟨u,a,k2,h⟩:=h;obtain⟨g1,rfl⟩:=QP k1 (by omega) k2;rw[if_pos c,g1];simp only[xbS];exact jv hT A he n _ _ _ (B.next (XM hT B.lt k2).1) (fun _=>rfl) _ _ h
  ·rename_i c;simp only[xoB] at h;obtain⟨b,k2,h⟩:=h;obtain⟨u,hu,rfl⟩:=Bm k2;rw[k1] at hu;cases hu;rw[if_neg c];split at h
   ·rename_i cb;simp only[xoB,xpX] at h;obtain⟨x,p1,k3,h⟩:=h;rw[if_pos cb];unfold Yl at k3;simp only[xoB,xoM,xpX,xpJ] at k3;obtain⟨p2,k4,y,p3,k5,p4,k6,rfl,rfl⟩:=k3;have s1:=(ZI hT B.lt k4).1;have s2:=((Qt hT A).st (B.next s1) k5).1;have s3:=(ZI hT s2.lt k6).1;obtain⟨x',g2,e2⟩:=he _ (B.next s1) _ _ k5;rw[gF k1 cb k4];simp only[xbS,g2,k6];exact jv hT A he n _ _ _ (((B.next s1).next s2).next s3) (fun z=>by rw[e2 (s3.e0 z)]) _ _ h
   ·rename_i cb;cases h;rw[if_neg cb];exact⟨_,rfl,fun _=>rfl⟩
theorem iK(hT:TOK T){e g:PM Nd}(A:Tot T (m+1) e)(he:Qr T m (Yn T e) g):Qr T m (bQ T e) (OJ T g):=by
 intro p B r q h;unfold bQ at h;simp only[xoB,xpX] at h;obtain⟨t,p1,k1,h⟩:=h;obtain⟨u,_,hu,_⟩:=Gz k1;unfold OJ lP Vw;rw[hu,k1];simp only[xmS,xbS];exact jv hT A he _ _ _ _ (B.next (Ks hT B.lt (by decide) k1).1) (fun z=>by rw[pi hu k1 z]) _ _ h
theorem xN(hT:TOK T):∀ (n m:Nat),42≤m+n→Qr T m (Yn T (F3 T n)) (Y9 T (Pf T n))
 | 0,m,h=>WE Gq
 | n+1,m,h=>WE (iK hT (Gb hT n (m+2) (by omega)) (xN hT n (m+1) (by omega)))
theorem kT(hT:TOK T){e g:PM Nd}(A:Tot T (m+1) e)(he:Qr T m (Yn T e) g):∀ (n:Nat) (s:Tx) (b:Bool) (nd nd':Nd) (p0 p:PS),Xd T s p0=some (b,p)→Bd T m p0→(p.e=0→nd'=nd∧nd.kids.length≤4)→EP (U1 T e n b nd p) (FB T g n b nd' p0)
 | 0,s,b,nd,nd',p0,p,k0,B,hn=>fun r q h=>by cases h
 | n+1,s,b,nd,nd',p0,p,k0,B,hn=>fun r q h=>by
  obtain⟨t,h1,h2,h3,h4,h5⟩:=Kq k0;unfold U1 at h;unfold FB;cases b with
  | false =>
   obtain rfl:=h5 rfl;simp only[XU,false_and,if_false] at h ⊢;cases h;exact⟨_,rfl,fun z=>(hn z).1⟩
  | true =>
   have s0:=Kj hT B.lt k0;have e0:=(h4 rfl).2;have ep:p.e=0:=by
    obtain⟨b',q',k',_,he',_⟩:=V7 hT B.lt s;rw[k0] at k';cases k';exact he'.trans e0
   obtain⟨rfl,hl⟩:=hn ep;rw[if_pos ⟨rfl,ep⟩] at h;rw[if_pos ⟨rfl,e0⟩,(h4 rfl).1];simp only[xoB,xpX] at h;obtain⟨p1,k1,x,p2,k2,b2,p3,k3,h⟩:=h;have B1:=(B.next s0).next (YC s0.lt k1);have s2:=((Qt hT A).st B1 k2).1;obtain⟨x',g2,e2⟩:=he _ B1 _ _ k2;simp only[xbS];rw[ud hl,show ZO T (nd'.kids.length:Int) ((4:Nat):Int) p=some p1 from k1];simp only[xbS,g2];obtain⟨_,_,_,g3,_⟩:=Kq k3;rw[g3];simp only[xbS];have s3:=Kj hT s2.lt k3;exact kT hT A he n [44] b2 _ _ p2 p3 k3 (B1.next s2) (fun z=>⟨by rw[e2 (s3.e0 z)],by
    have:=L8 k1 (s2.e0 (s3.e0 z));cases nd';simp[Nd.addKid,Nd.kids] at this ⊢;omega⟩) _ _ h
theorem lW(hT:TOK T){e g:PM Nd}(A:Tot T (m+1) e)(he:Qr T m (Yn T e) g):Qr T m (E8 T e) (uj T g):=by
 intro p B r q h;unfold E8 at h;simp only[xoB,xpX] at h;obtain⟨t,p1,k1,b,p2,k2,h⟩:=h;obtain⟨u,_,hu,_⟩:=Gz k1;have s1:=(Ks hT B.lt (by decide) k1).1;have s2:=Kj hT s1.lt k2;obtain⟨_,_,_,g3,_,g5⟩:=Kq k2;unfold uj lP Vw;rw[hu,k1];simp only[xmS,xbS,g3];refine kT hT A he _ [111,102] b (zw 26 t.pos t.text []) _ p1 p2 k2 (B.next s1) (fun z=>⟨by rw[pi hu k1 (s2.e0 z)],by simp[zw,Nd.kids]⟩) _ _ ?_;cases b with
 | true=>exact h
 | false=>exact h
theorem Gk(hT:TOK T):∀ (n:Nat) (nd nd':Nd) (p:PS),Bd T m p→(p.e=0→nd'=nd∧nd.names.length≤4)→EP (Qx T n nd p) (Uq T n nd' p)
 | 0,nd,nd',p,B,hn=>fun r q h=>by cases h
 | n+1,nd,nd',p,B,hn=>fun r q h=>by
  unfold Qx at h;unfold Uq;simp only[xoB] at h;obtain⟨t,k1,h⟩:=h;rw[k1];simp only[xbS];split at h
  ·rename_i c;obtain⟨rfl,hl⟩:=hn (U' k1 (by omega));simp only[xoB,xpX] at h;obtain⟨p1,k2,u,p2,k3,h⟩:=h;have s1:=YC B.lt k2;have s2:=(XM hT s1.lt k3).1;rw[if_pos c];by_cases c4:nd'.names.length=4
   ·rw[Ur (by omega)] at k2;have hne:=Qb k2 (by decide);have s3:=EF hT n _ _ _ _ ((B.next s1).next s2) h;rw[if_pos c4,k2];obtain rfl:=(s2.trans s3).err hne;exact⟨_,rfl,fun z=>absurd z hne⟩
   ·obtain rfl:=Hs (by omega) k2;obtain⟨g1,rfl⟩:=QP k1 (by omega) k3;rw[if_neg c4,g1];simp only[xbS];exact Gk hT n _ _ _ (B.next s2) (fun _=>⟨rfl,by cases nd';simp[Nd.addName,Nd.names] at c4 hl ⊢;omega⟩) _ _ h
  ·rename_i c;cases h;rw[if_neg c];exact⟨_,rfl,fun z=>(hn z).1⟩
theorem Ga:∀ {n:Nat} {nd c:Nd},nd.kids.length<n→(nd.addKid c).kids.length≤n:=fun {n nd c} h=>by cases nd;simp[Nd.addKid,Nd.kids] at h ⊢;omega
theorem Lr(hT:TOK T){e g:PM Nd}(A:Tot T (m+1) e)(he:Qr T m (Yn T e) g):∀ (n:Nat) (b:Bool) (nd nd':Nd) (p:PS),Bd T m p→(p.e=0→nd'=nd∧nd.kids.length≤20)→EP (YP T e n b nd p) (EE T g n b nd' p)
 | 0,b,nd,nd',p,B,hn=>fun r q h=>by cases h
 | n+1,b,nd,nd',p,B,hn=>fun r q h=>by
  unfold YP at h;unfold EE;by_cases c:b=true∧p.e=0
  ·obtain⟨rfl,hl⟩:=hn c.2;rw[if_pos c] at h ⊢;simp only[xoB,xpX] at h;obtain⟨p1,k1,x,p2,k2,b2,p3,k3,h⟩:=h;have B1:=B.next (YC B.lt k1);have s2:=((jf hT A).st B1 k2).1;have s3:=Kj hT s2.lt k3;obtain⟨x',g2,e2⟩:=lW hT A he _ B1 _ _ k2;rw[ud hl,show ZO T (nd'.kids.length:Int) ((20:Nat):Int) p=some p1 from k1];simp only[xbS,g2,k3];exact Lr hT A he n b2 _ _ p3 ((B1.next s2).next s3) (fun z=>⟨by rw[e2 (s3.e0 z)],Ga (by have:=L8 k1 (s2.e0 (s3.e0 z));omega)⟩) _ _ h
  ·rw[if_neg c] at h ⊢;cases h;exact⟨_,rfl,fun z=>(hn z).1⟩
theorem Qu{t:Tk}{s:Tx}:isT t s=true↔(t.kind=5∨t.kind=6)∧t.text=s:=by
 unfold isT;simp
theorem J0{t:Tk}{s:Tx}(h:¬ (t.kind=5∨t.kind=6)):¬ isT t s=true:=fun x=>h (Qu.1 x).1
theorem Bf{t:Tk}{s:Tx}(h:t.text≠s):¬ isT t s=true:=fun x=>h (Qu.1 x).2
theorem Vx{kinds:List (Int×Int)}{p q:PS}{r:Nd}{t:Tk}(hl:zH T p=some t)(k:Int)(hk:k≠0)(hf:((kinds.find? fun q=>q.1==t.kind).map (·.2)).getD 0=k)(h0:t.kind≠0)(h:Xc T kinds p=some (r,q)):Jh T k p=some (r,q):=by
 unfold Xc at h;rw[hl] at h;simp only[xbS,hf] at h;rw[if_neg hk] at h;simp only[xoM,xpX,xpJ] at h;obtain⟨u,a,h1,rfl,rfl⟩:=h;obtain⟨g1,rfl⟩:=QP hl h0 h1;unfold Jh;rw[g1];rfl
theorem G'{kinds:List (Int×Int)}{p q:PS}{r:Nd}{t:Tk}(hl:zH T p=some t)(hf:((kinds.find? fun q=>q.1==t.kind).map (·.2)).getD 0=0)(h:Xc T kinds p=some (r,q)):Zq T 14 p=some q∧r=Wf:=by
 unfold Xc at h;rw[hl] at h;simp only[xbS,hf,if_true,xoM,xpJ] at h;obtain⟨a,h1,rfl,rfl⟩:=h;exact⟨h1,rfl⟩
theorem FH(hT:TOK T){e g:PM Nd}(A:Tot T (m+1) e)(he:Qr T m (Yn T e) g):Qr T m (Qo T e) (He T g):=by
 intro p B r q h;unfold Qo at h;unfold He;simp only[xoB,xpX] at h;obtain⟨t,k1,b,p1,k2,h⟩:=h;obtain⟨u,hu,h2,h3,h4,h5⟩:=Kq k2;rw[k1] at hu;cases hu;rw[k1];simp only[xbS];cases b with
 | true =>
  have hi:=Qu.1 h2;have h56:t.kind≠1∧t.kind≠3∧t.kind≠4:=by omega
  rw[if_neg h56.1,if_neg h56.2.1,if_neg h56.2.2,if_pos h2,(h4 rfl).1];cases h;exact⟨_,rfl,fun _=>rfl⟩
 | false =>
  obtain rfl:=h5 rfl;simp only[XU,if_false,xoB] at h;obtain⟨b,k3,h⟩:=h;obtain⟨u,hu,rfl⟩:=Bm k3;rw[k1] at hu;cases hu;split at h
  ·rename_i cb;have hi:=Qu.1 cb;have h56:t.kind≠1∧t.kind≠3∧t.kind≠4:=by omega
   rw[if_neg h56.1,if_neg h56.2.1,if_neg h56.2.2,if_neg (by rw[h2];decide),if_pos cb];unfold Yl at h;simp only[xoB,xoM,xpX,xpJ] at h;obtain⟨p2,k4,y,p3,k5,p4,k6,rfl,rfl⟩:=h;have s1:=(ZI hT B.lt k4).1;have s2:=((Qt hT A).st (B.next s1) k5).1;have s3:=(ZI hT s2.lt k6).1;obtain⟨x',g2,e2⟩:=he _ (B.next s1) _ _ k5;rw[gF k1 cb k4];simp only[xbS,g2,k6,xmS];exact⟨_,rfl,fun z=>e2 (s3.e0 z)⟩
  ·rename_i cb;by_cases c1:t.kind=1
   ·rw[if_pos c1,Vx k1 1 (by decide) (by rw[c1];rfl) (by omega) h];exact⟨_,rfl,fun _=>rfl⟩
   by_cases c3:t.kind=3
   ·rw[if_neg c1,if_pos c3,Vx k1 4 (by decide) (by rw[c3];rfl) (by omega) h];exact⟨_,rfl,fun _=>rfl⟩
   by_cases c4:t.kind=4
   ·rw[if_neg c1,if_neg c3,if_pos c4,Vx k1 5 (by decide) (by rw[c4];rfl) (by omega) h];exact⟨_,rfl,fun _=>rfl⟩
   obtain⟨f1,rfl⟩:=G' k1 (by
    have a1:((1:Int)==t.kind)=false:=by simp;omega
    have a3:((3:Int)==t.kind)=false:=by simp;omega
    have a4:((4:Int)==t.kind)=false:=by simp;omega
    simp[List.find?_cons,a1,a3,a4]) h
   rw[if_neg c1,if_neg c3,if_neg c4,if_neg (by rw[h2];decide),if_neg cb,f1];exact⟨_,rfl,fun _=>rfl⟩
theorem wS(hT:TOK T){e g:PM Nd}(A:Tot T (m+1) e)(he:Qr T m (Yn T e) g):∀ (n:Nat) (b:Bool) (nd nd':Nd) (p:PS),Bd T m p→(b=true→p.e=0→nd'=nd∧nd.kids.length≤4)→(p.e=0→nd'=nd)→EP (JO T e n b nd p) (DI T g n b nd' p)
 | 0,b,nd,nd',p,B,hn,hz=>fun r q h=>by cases h
 | n+1,false,nd,nd',p,B,hn,hz=>fun r q h=>by
  unfold JO at h;unfold DI;cases h;exact⟨_,rfl,hz⟩
 | n+1,true,nd,nd',p,B,hn,hz=>fun r q h=>by
  unfold JO at h;unfold DI;rw[if_pos rfl] at h ⊢;simp only[xoB] at h;obtain⟨b,k1,h⟩:=h;rw[k1];simp only[xbS];cases b with
  | false=>cases h;exact⟨_,rfl,hz⟩
  | true =>
   have e0:p.e=0:=by
    obtain⟨b',hb',hx⟩:=Br (T:=T) B.lt;rw[k1] at hb';cases hb';exact hx rfl
   obtain⟨rfl,hl⟩:=hn rfl e0;simp only[if_true,xoB,xpX] at h ⊢;obtain⟨p1,k2,x,p2,k3,h⟩:=h;have s1:=YC B.lt k2;have s2:=((Wo hT A).st (B.next s1) k3).1;by_cases c4:nd'.kids.length=4
   ·rw[Ur (by omega)] at k2;have hne:=Qb k2 (by decide);have s3:=hH hT A n _ _ _ _ _ ((B.next s1).next s2) h;rw[if_pos c4,k2];obtain rfl:=(s2.trans s3).err hne;exact⟨_,rfl,fun z=>absurd z hne⟩
   ·obtain rfl:=Hs (by omega) k2;obtain⟨x',g2,e2⟩:=FH hT A he _ B _ _ k3;rw[if_neg c4,g2];simp only[xbS];exact wS hT A he n true _ _ _ (B.next s2) (fun _ z=>⟨by rw[e2 z],Ga (by omega)⟩) (fun z=>by rw[e2 z]) _ _ h
theorem FR{kinds:List (Int×Int)}{p q:PS}{r:Nd}(h:Xc T kinds p=some (r,q)):r.kids=[]:=by
 unfold Xc at h;simp only[xoB] at h;obtain⟨t,_,h⟩:=h;split at h
 ·simp only[xoM,xpJ] at h;obtain⟨_,_,rfl,_⟩:=h;rfl
 ·simp only[xoM,xpX,xpJ] at h;obtain⟨_,_,_,rfl,_⟩:=h;rfl
theorem l8(hT:TOK T){e g:PM Nd}(A:Tot T (m+1) e)(he:Qr T m (Yn T e) g):Qr T m (HW T e) (ff T g):=by
 intro p B r q h;unfold HW at h;unfold ff;simp only[xoB,xpX] at h;obtain⟨t,k1,x,p1,k2,h⟩:=h;have s1:=((Wo hT A).st B k2).1;obtain⟨x',g2,e2⟩:=FH hT A he _ B _ _ k2;rw[k1];simp only[xbS,g2];refine wS hT A he _ _ _ _ _ (B.next s1) (fun hb z=>⟨e2 z,?_⟩) e2 _ _ h;have hk:t.kind=4:=by simpa using hb
 have hx:x.kids=[]:=by
  unfold Qo at k2;rw[k1] at k2;have n1:isT t [95]=false:=by simp[isT,hk]
  have n2:isT t [40]=false:=by simp[isT,hk]
  simp only[xbS,Xd,Yj,k1,xmS,n1,n2,XU,if_false] at k2;exact FR k2
 rw[hx];exact Nat.zero_le _
theorem vA(hT:TOK T):∀ (n m:Nat),42≤m+n→Qr T m (Yn T (Qq T n)) (Y9 T (lU T n))
 | 0,m,h=>WE Gq
 | n+1,m,h=>WE (l8 hT (HR hT n (m+2) (by omega)) (vA hT n (m+1) (by omega)))
end Go.AL
namespace Go.AL
variable {T:List Tk} {m:Nat}
theorem WA{e g:PM Nd}(he:Qr T m (Yn T e) g):Qr T m (Q4 T e) (Xm g):=by
 intro p B r q h;unfold Q4 at h;unfold Xm;simp only[xoM,xpX,xpJ] at h;obtain⟨c,a,k,rfl,rfl⟩:=h;obtain⟨x',g1,g2⟩:=he _ (gB B false) _ _ k;rw[g1];exact⟨x',rfl,g2⟩
theorem mC(n a b:Nd):(n.addKids [a,b]).kids.length=n.kids.length+2:=by cases n;simp[Nd.addKids,Nd.kids]
theorem wv(n a b:Nd):n.addKids [a,b]=(n.addKid a).addKid b:=by cases n;simp[Nd.addKids,Nd.addKid]
theorem uh(k:Nat):Int.tdiv ((2*k+1:Nat):Int) 2=(k:Int):=by
 show (((2*k+1) / 2:Nat):Int)=(k:Int);omega
theorem Bs(hT:TOK T){e pt g gp:PM Nd}(A:Tot T (m+1) e)(P:Tot T (m+1) pt)(he:Qr T m (Yn T e) g)(hp:Qr T m (Yn T pt) gp):∀ (n:Nat) (f b:Bool) (nd nd':Nd) (p:PS),Bd T m p→(if f=true then some true else Yj T [124] p)=some b→(p.e=0→nd'=nd∧∃ k,nd.kids.length=2*k+1∧k≤20)→EP (QR T e pt n f nd p) (Ut T g gp n b nd' p)
 | 0,f,b,nd,nd',p,B,hb,hn=>fun r q h=>by cases h
 | n+1,f,b,nd,nd',p,B,hb,hn=>fun r q h=>by
  obtain⟨b',k0,h⟩:=GA h;rw[hb] at k0;cases k0;unfold Ut;rcases h with⟨rfl,rfl,rfl⟩ | ⟨rfl,c,w,p5,hr,h⟩
  ·rw[if_neg (by decide)];exact⟨_,rfl,fun z=>(hn z).1⟩
  rw[if_pos rfl];obtain⟨p1,p2,p3,p4,k1,k2,k3,k4,k5⟩:=hr.h;have s1:=YC B.lt k1;have s2:=(ZI hT s1.lt k2).1;have B2:=(B.next s1).next s2;have s3:=((Qt hT P).st B2 k3).1;have s4:=(ZI hT s3.lt k4).1;have B4:=(B2.next s3).next s4;have s5:=((Xr hT A).st B4 k5).1;obtain⟨c',g3,e3⟩:=hp _ B2 _ _ k3;obtain⟨w',g5,e5⟩:=WA he _ B4 _ _ k5;obtain⟨b2,hb2,_⟩:=UN (T:=T) s5.lt [124];have hcap:HZ T (nd'.kids.length=41) p=some p1:=by
   by_cases e0:p.e=0
   ·obtain⟨rfl,k,hk,hl⟩:=hn e0;unfold HZ;unfold ZO at k1;rw[hk,uh k] at k1;rw[hk];by_cases c20:k=20
    ·rw[if_pos (by omega)] at k1 ⊢;exact k1
    ·rw[if_neg (by omega)] at k1 ⊢;exact k1
   ·obtain rfl:=s1.err e0;unfold HZ;split
    ·unfold Zq;rw[if_neg e0]
    ·rfl
  rw[hcap];simp only[xbS,k2,g3,k4,g5,hb2];rw[wv] at h;refine Bs hT A P he hp n false b2 _ _ p5 (B4.next s5) (by simpa using hb2) (fun z=>?_) _ _ h;have z4:=s5.e0 z;have z3:=s4.e0 z4;have z0:=s1.e0 (s2.e0 (s3.e0 z3));obtain⟨rfl,k,hk,hl⟩:=hn z0;refine⟨by rw[e3 z3,e5 z],k+1,by rw[←wv,mC];omega,?_⟩;have:=L8 k1 (s2.e0 (s3.e0 z3));rw[hk,uh] at this;omega
theorem me(hT:TOK T){e pt g gp:PM Nd}(A:Tot T (m+1) e)(P:Tot T (m+1) pt)(he:Qr T m (Yn T e) g)(hp:Qr T m (Yn T pt) gp){p:PS}(B:Bd T m p){t:Tk}(hl:zH T p=some t)(hk:t.kind≠0) :
  EP (Y1 T e pt p) ((ZD T p).bind fun r=>(Xm g r.2).bind fun q=>(qy T [119,105,116,104] q.2).bind fun p1=>BV T g gp t.pos q.1 p1):=by
 intro r q h;unfold Y1 at h;simp only[xoB,xoM,xpX,xpJ] at h;obtain⟨t1,a1,k1,w1,a2,k2,a3,k3,n1,a4,k4,a5,k5,rfl,rfl⟩:=h;obtain⟨g1,rfl⟩:=QP hl hk k1;have s1:=(XM hT B.lt k1).1;have s2:=((Xr hT A).st (B.next s1) k2).1;have s3:=(ZI hT s2.lt k3).1;have C1:=((B.next s1).next s2).next s3;have s4:=LC hT A P _ _ _ _ _ _ C1 k4;have s5:=(ZI hT s4.lt k5).1;obtain⟨w',g2,e2⟩:=WA he _ (B.next s1) _ _ k2;unfold BV;rw[g1];simp only[xbS,g2,k3];obtain⟨n',g4,e4⟩:=Bs hT A P he hp _ true true _ (zw 11 t1.pos [] [w']) a3 C1 rfl (fun z=>⟨by rw[e2 (s3.e0 z)],0,by simp[zw,Nd.kids],by omega⟩) _ _ k4;rw[g4];simp only[xbS,k5,xmS];exact⟨_,rfl,fun z=>e4 (s5.e0 z)⟩
theorem oZ(hT:TOK T){e g:PM Nd}(A:Tot T (m+1) e)(he:Qr T m (Yn T e) g){p:PS}(B:Bd T m p){t:Tk}(hl:zH T p=some t)(hk:t.kind≠0) :
  EP (Hm T e p) ((ZD T p).bind fun r=>(Xm g r.2).bind fun q=>(qy T [119,105,116,104] q.2).bind fun p1=>dE T g t.pos q.1 p1):=by
 intro r q h;unfold Hm at h;simp only[xoB,xoM,xpX,xpJ] at h;obtain⟨t1,a1,k1,w1,a2,k2,a3,k3,u,a4,k4,a5,k5,v,a6,k6,a7,k7,rfl,rfl⟩:=h;obtain⟨g1,rfl⟩:=QP hl hk k1;have s1:=(XM hT B.lt k1).1;have s2:=((Xr hT A).st (B.next s1) k2).1;have s3:=(ZI hT s2.lt k3).1;have s4:=(Ks hT s3.lt (by decide) k4).1;have s5:=(ZI hT s4.lt k5).1;have C1:=((((B.next s1).next s2).next s3).next s4).next s5;have s6:=((Xr hT A).st C1 k6).1;have s7:=(ZI hT s6.lt k7).1;obtain⟨w',g2,e2⟩:=WA he _ (B.next s1) _ _ k2;obtain⟨v',g6,e6⟩:=WA he _ C1 _ _ k6;unfold dE Vw;rw[g1];simp only[xbS,g2,k3,k4,xmS,k5,g6,k7];exact⟨_,rfl,fun z=>by
  have z6:=s7.e0 z;rw[e6 z6,e2 (s3.e0 (s4.e0 (s5.e0 (s6.e0 z6))))]⟩
theorem Wz(hT:TOK T){e pt g gp:PM Nd}(A:Tot T (m+1) e)(P:Tot T (m+1) pt)(he:Qr T m (Yn T e) g)(hp:Qr T m (Yn T pt) gp):Qr T m (ZL T e pt) (Ji T g gp):=by
 intro p B r q h;unfold ZL at h;unfold Ji;simp only[xoB] at h;obtain⟨t,k1,h⟩:=h;rw[k1];simp only[xbS];by_cases c5:t.kind=5∨t.kind=6
 ·rw[if_neg (show ¬ t.kind=1 by omega),if_neg (show ¬ t.kind=2 by omega),if_neg (show ¬ t.kind=3 by omega),if_neg (show ¬ t.kind=4 by omega)];have hk:t.kind≠0:=by omega
  split at h
  ·rename_i c;have hx:=(Qu.1 c).2;rw[if_neg (Bf (by rw[hx];decide)),if_neg (Bf (by rw[hx];decide)),if_neg (Bf (by rw[hx];decide)),if_pos c];exact me hT A P he hp B k1 hk _ _ h
  rename_i cm;split at h
  ·rename_i c;have hx:=(Qu.1 c).2;rw[if_neg (Bf (by rw[hx];decide)),if_neg (Bf (by rw[hx];decide)),if_pos c];exact oZ hT A he B k1 hk _ _ h
  rename_i ct;split at h
  ·rename_i c;simp only[xoM,xpX,xpJ] at h;obtain⟨u,a,k2,rfl,rfl⟩:=h;rw[if_pos c,(QP k1 hk k2).1];exact⟨_,rfl,fun _=>rfl⟩
  rename_i cr;split at h
  ·rename_i c;simp only[xoB,xpX] at h;obtain⟨u,p1,k2,b,p2,k3,h⟩:=h;have s1:=(XM hT B.lt k2).1;have s2:=Kj hT s1.lt k3;rw[if_neg cr,if_pos c,(QP k1 hk k2).1];simp only[xbS,k3];split at h
   ·rename_i cb;cases h;rw[if_pos cb];exact⟨_,rfl,fun _=>rfl⟩
   ·rename_i cb;simp only[xoB,xoM,xpX,xpJ] at h;obtain⟨v,p3,k4,p4,k5,rfl,rfl⟩:=h;have C:=(B.next s1).next s2;have s3:=((Xr hT A).st C k4).1;have s4:=(ZI hT s3.lt k5).1;obtain⟨v',g4,e4⟩:=WA he _ C _ _ k4;rw[if_neg cb];simp only[g4,xbS,k5,xmS];exact⟨_,rfl,fun z=>e4 (s4.e0 z)⟩
  ·rename_i cp;obtain⟨f1,rfl⟩:=G' k1 (by
    have a1:((1:Int)==t.kind)=false:=by simp;omega
    have a2:((2:Int)==t.kind)=false:=by simp;omega
    have a3:((3:Int)==t.kind)=false:=by simp;omega
    have a4:((4:Int)==t.kind)=false:=by simp;omega
    simp[List.find?_cons,a1,a2,a3,a4]) h
   rw[if_neg cr,if_neg cp,if_neg ct,if_neg cm,f1];exact⟨_,rfl,fun _=>rfl⟩
 ·rw[if_neg (J0 c5),if_neg (J0 c5),if_neg (J0 c5),if_neg (J0 c5)] at h;by_cases c1:t.kind=1
  ·rw[if_pos c1,Vx k1 1 (by decide) (by rw[c1];rfl) (by omega) h];exact⟨_,rfl,fun _=>rfl⟩
  by_cases c2:t.kind=2
  ·rw[if_neg c1,if_pos c2,Vx k1 2 (by decide) (by rw[c2];rfl) (by omega) h];exact⟨_,rfl,fun _=>rfl⟩
  by_cases c3:t.kind=3
  ·rw[if_neg c1,if_neg c2,if_pos c3,Vx k1 4 (by decide) (by rw[c3];rfl) (by omega) h];exact⟨_,rfl,fun _=>rfl⟩
  by_cases c4:t.kind=4
  ·rw[if_neg c1,if_neg c2,if_neg c3,if_pos c4,Vx k1 5 (by decide) (by rw[c4];rfl) (by omega) h];exact⟨_,rfl,fun _=>rfl⟩
  obtain⟨f1,rfl⟩:=G' k1 (by
   have a1:((1:Int)==t.kind)=false:=by simp;omega
   have a2:((2:Int)==t.kind)=false:=by simp;omega
   have a3:((3:Int)==t.kind)=false:=by simp;omega
   have a4:((4:Int)==t.kind)=false:=by simp;omega
   simp[List.find?_cons,a1,a2,a3,a4]) h
  rw[if_neg c1,if_neg c2,if_neg c3,if_neg c4,if_neg (J0 c5),if_neg (J0 c5),if_neg (J0 c5),if_neg (J0 c5),f1];exact⟨_,rfl,fun _=>rfl⟩
theorem Lf{s:Tx}(h:0<(qJ s).1):s∈keysL∧((qJ s).2=1∨(qJ s).2=2):=by
 unfold qJ at h ⊢;repeat' split at h
 all_goals first
  | (exfalso;revert h;decide)
  | (subst_vars;decide)
theorem tj(hK:TKS T){p:PS}{t:Tk}(h:zH T p=some t):(t.kind=6∧0<(qJ t.text).1)↔0<(Y6 t).1:=by
 unfold Y6;by_cases c:t.kind=6
 ·rw[if_pos (.inr c)];simp[c]
 ·by_cases c5:t.kind=5
  ·rw[if_pos (.inl c5)];have:=hK.sgn t (BZ h (by omega)) c5;refine⟨fun x=>absurd x.1 c,fun x=>absurd (Lf x).1 this⟩
  ·rw[if_neg (by omega)];exact⟨fun x=>absurd x.1 c,fun x=>absurd x (by decide)⟩
theorem G6(hT:TOK T){e pt g gp:PM Nd}(A:Tot T (m+1) e)(P:Tot T (m+1) pt)(he:Qr T m (Yn T e) g)(hp:Qr T m (Yn T pt) gp):∀ (n:Nat) (b:Bool) (nd nd':Nd) (p:PS),Bd T m p→(b=true→p.e=0→nd.kids.length≤4)→(p.e=0→nd'=nd)→EP (Yp T e pt n b nd p) (K8 T g gp n b nd' p)
 | 0,b,nd,nd',p,B,hn,hz=>fun r q h=>by cases h
 | n+1,b,nd,nd',p,B,hn,hz=>fun r q h=>by
  unfold Yp at h;unfold K8;simp only[xoB] at h;obtain⟨t,k1,h⟩:=h;rw[k1];simp only[xbS];split at h;rotate_left
  ·rename_i c;cases h;rw[if_neg c];exact⟨_,rfl,hz⟩
  rename_i c;rw[if_pos c];have hk:t.kind≠0:=fun x=>by
   unfold qI isT at c;rw[x] at c;revert c;simp
  have e0:=U' k1 hk;obtain rfl:=hz e0;cases b with
  | true =>
   simp only[if_true,xoB,xpX] at h ⊢;obtain⟨p1,k2,x,p2,k3,h⟩:=h;have s1:=YC B.lt k2;have s2:=((XV hT A P).st (B.next s1) k3).1;have hl:=hn rfl e0;by_cases c4:nd'.kids.length=4
   ·rw[Ur (by omega)] at k2;have hne:=Qb k2 (by decide);have s3:=wj hT A P n _ _ _ _ _ ((B.next s1).next s2) h;rw[if_pos c4,k2];obtain rfl:=(s2.trans s3).err hne;exact⟨_,rfl,fun z=>absurd z hne⟩
   ·obtain rfl:=Hs (by omega) k2;obtain⟨x',g2,e2⟩:=Wz hT A P he hp _ B _ _ k3;rw[if_neg c4,g2];simp only[xbS];exact G6 hT A P he hp n true _ _ _ (B.next s2) (fun _ z=>Ga (by omega)) (fun z=>by rw[e2 z]) _ _ h
  | false =>
   simp only[XU,if_false] at h ⊢;simp only[xoB,xpX] at h;obtain⟨x,p2,k3,h⟩:=h;have s2:=((XV hT A P).st B k3).1;obtain⟨x',g2,e2⟩:=Wz hT A P he hp _ B _ _ k3;rw[g2];simp only[xbS];exact G6 hT A P he hp n false _ _ _ (B.next s2) (fun hb=>by cases hb) (fun z=>by rw[e2 z]) _ _ h
theorem bH{e pt:PM Nd}{p q:PS}{x:Nd}{t:Tk}(hl:zH T p=some t)(h4:t.kind=4)(h:ZL T e pt p=some (x,q)):x.kids=[]:=by
 unfold ZL at h;rw[hl] at h;have c5:¬ (t.kind=5∨t.kind=6):=by omega
 simp only[xbS] at h;rw[if_neg (J0 c5),if_neg (J0 c5),if_neg (J0 c5),if_neg (J0 c5)] at h;exact FR h
theorem eo(hK:TKS T){e pt g gp:PM Nd}(A:Tot T (m+1) e)(P:Tot T (m+1) pt)(he:Qr T m (Yn T e) g)(hp:Qr T m (Yn T pt) gp):Qr T m (Jf T e pt) (vI T g gp):=by
 have hT:=hK.tok;intro p B r q h;unfold Jf at h;unfold vI;simp only[xoB] at h;obtain⟨t,k1,h⟩:=h;rw[k1];simp only[xbS];have hkr:=tj hK k1;by_cases c:t.kind=6∧0<(qJ t.text).1
 ·rw[if_pos c] at h;rw[if_pos (hkr.1 c)];have hkk:Y6 t=qJ t.text:=by unfold Y6;rw[if_pos (.inr c.1)]
  rw[hkk];simp only[xoB,xpX] at h;obtain⟨u,p1,k2,h⟩:=h;obtain⟨g2,rfl⟩:=QP k1 (by omega) k2;have s1:=(XM hT B.lt k2).1;rw[g2];simp only[xbS];rcases (Lf c.2).2 with h1 | h2
  ·rw[h1] at h ⊢;simp only[show (1:Int).toNat=0+1 from rfl,Xl,xoB,xpX] at h;obtain⟨x,p2,k3,h⟩:=h;cases h;obtain⟨x',g3,e3⟩:=Wz hT A P he hp _ (B.next s1) _ _ k3;rw[g3];simp only[xbS];rw[if_neg (by decide)];exact⟨_,rfl,fun z=>by rw[e3 z];rfl⟩
  ·rw[h2] at h ⊢;simp only[show (2:Int).toNat=0+1+1 from rfl,Xl,xoB,xpX] at h;obtain⟨x,p2,k3,y,p3,k4,h⟩:=h;cases h;have s2:=((XV hT A P).st (B.next s1) k3).1;have s3:=((XV hT A P).st ((B.next s1).next s2) k4).1;obtain⟨x',g3,e3⟩:=Wz hT A P he hp _ (B.next s1) _ _ k3;obtain⟨y',g4,e4⟩:=Wz hT A P he hp _ ((B.next s1).next s2) _ _ k4;rw[g3];simp only[xbS];simp only[if_true,g4,xmS];exact⟨_,rfl,fun z=>by rw[e3 (s3.e0 z),e4 z];rfl⟩
 ·rw[if_neg c] at h;rw[if_neg (fun x=>c (hkr.2 x))];simp only[xoB,xpX] at h;obtain⟨x,p1,k2,h⟩:=h;have s1:=((XV hT A P).st B k2).1;obtain⟨x',g2,e2⟩:=Wz hT A P he hp _ B _ _ k2;rw[g2];simp only[xbS];exact G6 hT A P he hp _ _ _ _ _ (B.next s1) (fun hb z=>by rw[bH k1 (by simpa using hb) k2];exact Nat.zero_le _) e2 _ _ h
theorem Cf(hK:TKS T){p:PS}{t:Tk}(h:zH T p=some t){a b c:Tx}(ha:a ∉ keysL∧a≠[])(hb:b ∉ keysL∧b≠[])(hc:c ∉ keysL∧c≠[]):(UF t a b c≠[]↔t.kind=5∧t.text∈[a,b,c])∧(t.kind=5∧t.text∈[a,b,c]→UF t a b c=t.text):=by
 have key:t.kind=6→t.text∈keysL:=fun h6=>hK.key t (BZ h (by omega)) h6;unfold UF isT;by_cases h5:t.kind=5
 ·simp only[h5,BEq.rfl,Bool.true_or,Bool.true_and,beq_iff_eq,List.mem_cons,List.not_mem_nil,or_false,true_and];by_cases c1:t.text=a
  ·simp[c1,ha.2]
  by_cases c2:t.text=b
  ·simp[c1,c2,hb.2];split <;> simp_all
  by_cases c3:t.text=c
  ·simp[c1,c2,c3,hc.2];split <;> (try split) <;> simp_all
  ·simp[c1,c2,c3]
 ·by_cases h6:t.kind=6
  ·have hk:=key h6;have n1:(t.text==a)=false:=by simp;rintro rfl;exact ha.1 hk
   have n2:(t.text==b)=false:=by simp;rintro rfl;exact hb.1 hk
   have n3:(t.text==c)=false:=by simp;rintro rfl;exact hc.1 hk
   simp[n1,n2,n3,h5]
  ·have q5:(t.kind==5)=false:=by simp[h5]
   have q6:(t.kind==6)=false:=by simp[h6]
   simp[q5,q6,h5]
theorem LQ(hK:TKS T){f g:PM Nd}(A:Tot T m f)(hf:Qr T m f g){a b c:Tx}(ha:a ∉ keysL∧a≠[])(hb:b ∉ keysL∧b≠[])(hc:c ∉ keysL∧c≠[]):∀ (n:Nat) (t:Tk) (nd nd':Nd) (p:PS),Bd T m p→zH T p=some t→(p.e=0→nd'=nd)→EP (JW T f [a,b,c] n t nd p) (W4 T g a b c n nd' p)
 | 0,t,nd,nd',p,B,hl,hn=>fun r q h=>by cases h
 | n+1,t,nd,nd',p,B,hl,hn=>fun r q h=>by
  have ho:=Cf hK hl ha hb hc;unfold JW at h;unfold W4;rw[hl];simp only[xbS];by_cases cc:t.kind=5∧t.text∈[a,b,c]
  ·rw[if_pos cc] at h;rw[if_pos (ho.1.2 cc),ho.2 cc];simp only[xoB,xpX] at h;obtain⟨u,p1,k1,x,p2,k2,t',k3,h⟩:=h;obtain⟨g1,rfl⟩:=QP hl (by omega) k1;have s1:=(XM hK.tok B.lt k1).1;have s2:=(A.st (B.next s1) k2).1;obtain⟨x',g2,e2⟩:=hf _ (B.next s1) _ _ k2;obtain rfl:=hn (U' hl (by omega));rw[g1];simp only[xbS,g2];exact LQ hK A hf ha hb hc n t' _ _ p2 ((B.next s1).next s2) k3 (fun z=>by rw[e2 z]) _ _ h
  ·rw[if_neg cc] at h;rw[if_neg (fun x=>cc (ho.1.1 x))];cases h;exact⟨_,rfl,hn⟩
theorem vQ(hK:TKS T){f g:PM Nd}(A:Tot T m f)(hf:Qr T m f g){a b c:Tx}(ha:a ∉ keysL∧a≠[])(hb:b ∉ keysL∧b≠[])(hc:c ∉ keysL∧c≠[]):Qr T m (JV T f [a,b,c]) (Dk T g a b c):=by
 intro p B r q h;unfold JV at h;unfold Dk;simp only[xoB,xpX] at h;obtain⟨x,p1,k1,t,k2,h⟩:=h;obtain⟨x',g1,e1⟩:=hf _ B _ _ k1;rw[g1];simp only[xbS];exact LQ hK A hf ha hb hc _ t _ _ p1 (B.next (A.st B k1).1) k2 e1 _ _ h
theorem xB(hK:TKS T){e pt g gp:PM Nd}(A:Tot T (m+1) e)(P:Tot T (m+1) pt)(he:Qr T m (Yn T e) g)(hp:Qr T m (Yn T pt) gp):Qr T m (EK T e pt) (lN T g gp) :=
 vQ hK (GX hK.tok (j0 hK.tok A P)) (vQ hK (j0 hK.tok A P) (eo hK A P he hp) (by decide) (by decide) (by decide)) (by decide) (by decide) (by decide)
theorem lq(hK:TKS T){e pt g gp:PM Nd}(A:Tot T (m+1) e)(P:Tot T (m+1) pt)(he:Qr T m (Yn T e) g)(hp:Qr T m (Yn T pt) gp):Qr T m (Wn T e pt) (GV T g gp):=by
 have hT:=hK.tok;intro p B r q h;unfold Wn at h;unfold GV;simp only[xoB,xpX] at h;obtain⟨x,p1,k1,t,k2,h⟩:=h;obtain⟨x',g1,e1⟩:=xB hK A P he hp _ B _ _ k1;have s1:=((Gh hT A P).st B k1).1;rw[g1];simp only[xbS,k2];have ho:(isT t [61]=true∨isT t [60]=true↔UF t [61] [60] [61]≠[])∧(isT t [61]=true∨isT t [60]=true→UF t [61] [60] [61]=t.text):=by
  unfold UF;by_cases c1:isT t [61]=true
  ·rw[if_pos c1];exact⟨⟨fun _=>by decide,fun _ =>.inl c1⟩,fun _=>(Qu.1 c1).2.symm⟩
  ·rw[if_neg c1];by_cases c2:isT t [60]=true
   ·rw[if_pos c2];exact⟨⟨fun _=>by decide,fun _ =>.inr c2⟩,fun _=>(Qu.1 c2).2.symm⟩
   ·rw[if_neg c2,if_neg c1];exact⟨⟨fun x=>absurd x (by simp[c1,c2]),fun x=>absurd rfl x⟩,fun x=>absurd x (by simp[c1,c2])⟩
 by_cases c:isT t [61]=true∨isT t [60]=true
 ·rw[if_pos c] at h;rw[if_pos (ho.1.1 c),ho.2 c];simp only[xoB,xoM,xpX,xpJ] at h;obtain⟨u,p2,k3,y,p3,k4,rfl,rfl⟩:=h;have hk:t.kind≠0:=c.elim Yo Yo;have s2:=(XM hT s1.lt k3).1;have B2:=(B.next s1).next s2;have s3:=((Gh hT A P).st B2 k4).1;obtain⟨y',g4,e4⟩:=xB hK A P he hp _ B2 _ _ k4;rw[(QP k2 hk k3).1];simp only[xbS,g4,xmS];exact⟨_,rfl,fun z=>by rw[e4 z,e1 (s2.e0 (s3.e0 z))]⟩
 ·rw[if_neg c] at h;rw[if_neg (fun x=>c (ho.1.2 x))];cases h;exact⟨_,rfl,e1⟩
theorem FY(hT:TOK T){e g:PM Nd}(A:Tot T (m+1) e)(he:Qr T m (Yn T e) g){p q:PS}{x:Tx}{rc:Bool}{v:Nd}(B:Bd T m p)(h:Q2 T e p=some ((x,rc,v),q)):∃ v',V8 T g p=some ((x,rc,v'),q)∧(q.e=0→v'=v):=by
 obtain⟨p1,t,p2,p3,p4,k1,k2,rfl,k3,k4,k5⟩:=FU h;have s1:=Kj hT B.lt k1;obtain⟨s2,_⟩:=Ks hT s1.lt (by decide) k2;have s3:=(ZI hT s2.lt k3).1;have s4:=tm s3.lt k4;have C:=(((B.next s1).next s2).next s3).next s4;obtain⟨v',g5,e5⟩:=he _ C _ _ k5;obtain⟨f,kf,_⟩:=UN (T:=T) s3.lt [102,117,110];have hrec:(if rc=true∧¬ f=true∧p3.deep<40 then Zq T 14 p3 else some p3)=some p4:=by
  by_cases c1:rc=true∧p3.deep<40
  ·rw[if_pos c1,kf] at k4;simp only[xbS] at k4;cases f with
   | true=>rw[if_neg (by simp)];simpa using k4
   | false=>rw[if_pos ⟨c1.1,by simp,c1.2⟩];simpa using k4
  ·rw[if_neg c1] at k4;rw[if_neg (fun x=>c1 ⟨x.1,x.2.2⟩)];exact k4
 unfold V8 Vw;rw[k1];simp only[xbS,k2,xmS,k3,kf];rw[hrec];simp only[xbS,g5,xmS];exact⟨_,rfl,e5⟩
theorem Rv(hK:TKS T){p:PS}{t:Tk}(h:zH T p=some t){s:Tx}(hs:s∈keysL):(t.kind=6∧t.text=s)↔isT t s=true:=by
 rw[Qu];refine⟨fun x=>⟨.inr x.1,x.2⟩,fun x=>?_⟩;rcases x.1 with h5 | h6
 ·exact absurd (x.2▸hs) (hK.sgn t (BZ h (by omega)) h5)
 ·exact⟨h6,x.2⟩
theorem pM(hK:TKS T){e pt g gp:PM Nd}(A:Tot T (m+1) e)(P:Tot T (m+1) pt)(he:Qr T m (Yn T e) g)(hp:Qr T m (Yn T pt) gp):Qr T m (JZ T e pt) (BD T g gp):=by
 have hT:=hK.tok;intro p B r q h;unfold JZ at h;unfold BD;simp only[xoB] at h;obtain⟨t,k0,h⟩:=h;rw[k0];simp only[xbS];have i1:=Rv hK k0 (s:=[108,101,116]) (by decide);have i2:=Rv hK k0 (s:=[102,117,110]) (by decide);have i3:=Rv hK k0 (s:=[105,102]) (by decide);by_cases c1:t.kind=6∧t.text=[108,101,116]
 ·rw[if_pos c1] at h;rw[if_pos (i1.1 c1)];unfold B9 at h;simp only[xoB,xoM,xpX,xpJ] at h;obtain⟨u,p1,k1,x,rc,v,p2,k2,p3,k3,w,p4,k4,rfl,rfl⟩:=h;obtain⟨g1,rfl⟩:=QP k0 (by omega) k1;have s1:=(XM hT B.lt k1).1;have s2:=(k8 hT A (B.next s1) k2).1;have s3:=(ZI hT s2.lt k3).1;have C:=((B.next s1).next s2).next s3;have s4:=((Qt hT A).st C k4).1;obtain⟨v',g2,e2⟩:=FY hT A he (B.next s1) k2;obtain⟨w',g4,e4⟩:=he _ C _ _ k4;rw[g1];simp only[xbS,g2,k3,g4,xmS];exact⟨_,rfl,fun z=>by rw[e4 z,e2 (s3.e0 (s4.e0 z))]⟩
 rw[if_neg c1] at h;rw[if_neg (fun x=>c1 (i1.2 x))];by_cases c2:t.kind=6∧t.text=[102,117,110]
 ·rw[if_pos c2] at h;rw[if_pos (i2.1 c2)];unfold Fl at h;simp only[xoB,xoM,xpX,xpJ] at h;obtain⟨u,p1,k1,x,p2,k2,p3,k3,w,p4,k4,rfl,rfl⟩:=h;obtain⟨g1,rfl⟩:=QP k0 (by omega) k1;have s1:=(XM hT B.lt k1).1;have s2:=(Ks hT s1.lt (by decide) k2).1;have s3:=(ZI hT s2.lt k3).1;have C:=((B.next s1).next s2).next s3;obtain⟨w',g4,e4⟩:=he _ C _ _ k4;unfold Vw;rw[g1];simp only[xbS,k2,k3,g4,xmS];exact⟨_,rfl,fun z=>by rw[e4 z]⟩
 rw[if_neg c2] at h;rw[if_neg (fun x=>c2 (i2.2 x))];by_cases c3:t.kind=6∧t.text=[105,102]
 ·rw[if_pos c3] at h;rw[if_pos (i3.1 c3)];unfold JD at h;simp only[xoB,xoM,xpX,xpJ] at h;obtain⟨u,p1,k1,x,p2,k2,p3,k3,y,p4,k4,p5,k5,w,p6,k6,rfl,rfl⟩:=h;obtain⟨g1,rfl⟩:=QP k0 (by omega) k1;have s1:=(XM hT B.lt k1).1;have s2:=((Qt hT A).st (B.next s1) k2).1;have s3:=(ZI hT s2.lt k3).1;have C:=((B.next s1).next s2).next s3;have s4:=((Qt hT A).st C k4).1;have s5:=(ZI hT s4.lt k5).1;have D:=(C.next s4).next s5;have s6:=((Qt hT A).st D k6).1;obtain⟨x',g2,e2⟩:=he _ (B.next s1) _ _ k2;obtain⟨y',g4,e4⟩:=he _ C _ _ k4;obtain⟨w',g6,e6⟩:=he _ D _ _ k6;rw[g1];simp only[xbS,g2,k3,g4,k5,g6,xmS];exact⟨_,rfl,fun z=>by
   have z4:=s5.e0 (s6.e0 z);rw[e6 z,e4 z4,e2 (s3.e0 (s4.e0 z4))]⟩
 rw[if_neg c3] at h;rw[if_neg (fun x=>c3 (i3.2 x))];simp only[xoB,xpX] at h;obtain⟨x,p1,k1,b,p2,k2,h⟩:=h;have s1:=((pn hT A P).st B k1).1;obtain⟨x',g1,e1⟩:=lq hK A P he hp _ B _ _ k1;rw[g1];simp only[xbS];by_cases cf:p1.flat=true
 ·rw[if_pos cf] at k2;cases k2;obtain⟨b,kb,_⟩:=UN (T:=T) s1.lt [59];rw[kb];simp only[xbS];rw[if_neg (by simp[cf])];cases h;exact⟨_,rfl,e1⟩
 ·rw[if_neg cf] at k2;obtain⟨_,_,_,g2,g3,g4⟩:=Kq k2;rw[g2];simp only[xbS];have s2:=Kj hT s1.lt k2;cases b with
  | true =>
   simp only[if_true,xoM,xpX,xpJ] at h;obtain⟨w,p3,k3,rfl,rfl⟩:=h;have C:=(B.next s1).next s2;have s3:=((Qt hT A).st C k3).1;obtain⟨w',g5,e5⟩:=he _ C _ _ k3;rw[if_pos ⟨rfl,cf⟩,(g3 rfl).1];simp only[xbS,g5,xmS];exact⟨_,rfl,fun z=>by rw[e5 z,e1 (s2.e0 (s3.e0 z))]⟩
  | false =>
   obtain rfl:=g4 rfl;rw[if_neg (by simp)];cases h;exact⟨_,rfl,e1⟩
theorem vH(hK:TKS T):∀ (n m:Nat),42≤m+n→Qr T m (Yn T (Qf T n)) (Y9 T (af T n))
 | 0,m,h=>WE Gq
 | n+1,m,h=>WE (pM hK (H9 hK.tok n (m+2) (by omega)) (HR hK.tok (n+1) (m+2) (by omega)) (vH hK n (m+1) (by omega)) (vA hK.tok (n+1) (m+1) (by omega)))
theorem nH(hT:TOK T){e ty g gt:PM Nd}(A:Tot T (m+1) e)(Y:Tot T (m+1) ty)(he:Qr T m (Yn T e) g)(hy:Qr T m (Yn T ty) gt){p:PS}(B:Bd T m p){t:Tk}(hl:zH T p=some t)(hk:t.kind≠0):EP (Y7 T e ty p) (kH T g gt p):=by
 intro r q h;unfold Y7 at h;unfold kH;simp only[xoB,xoM,xpX,xpJ] at h;obtain⟨b,kb,x,p1,h,p2,k2,rfl,rfl⟩:=h;rw[kb];simp only[xbS];cases b with
 | true =>
  simp only[if_true] at h;unfold QS at h;simp only[xoB,xpX] at h;obtain⟨u,a1,j1,w,a2,j2,n,a3,j3,a4,j4,h⟩:=h;obtain⟨g1,rfl⟩:=QP hl hk j1;have s1:=(XM hT B.lt j1).1;have s2:=(Ks hT s1.lt (by decide) j2).1;have C:=(B.next s1).next s2;have s3:=EF hT _ _ _ _ _ C j3;have s4:=(ZI hT s3.lt j4).1;have D:=(C.next s3).next s4;have s5:=ui hT Y _ _ _ _ _ _ D h;have s6:=(ZI hT s5.lt k2).1;have hkid:n.kids=[]:=by
   have:∀ (k:Nat) (nd:Nd) (p:PS) (r:Nd) (q:PS),nd.kids=[]→Qx T k nd p=some (r,q)→r.kids=[]:=by
    intro k;induction k with
    | zero=>intro nd p r q _ h;cases h
    | succ k ih =>
     intro nd p r q hn h;unfold Qx at h;simp only[xoB] at h;obtain⟨t,_,h⟩:=h;split at h
     ·simp only[xoB,xpX] at h;obtain⟨_,_,u,_,_,h⟩:=h;exact ih _ _ _ _ (by rw[Ht];exact hn) h
     ·cases h;exact hn
   exact this _ _ _ _ _ rfl j3
  obtain⟨n',g3,e3⟩:=Gk hT _ _ (zw 25 u.pos w.text []) a2 C (fun _=>⟨rfl,by simp[zw,Nd.names]⟩) _ _ j3;obtain⟨x',g5,e5⟩:=Lr hT Y hy _ true _ n' a4 D (fun z=>⟨e3 (s4.e0 z),by rw[hkid];simp⟩) _ _ h;unfold gH Vw;rw[g1];simp only[xbS,if_true,j2,xmS,g3,j4,g5,k2];exact⟨_,rfl,fun z=>e5 (s6.e0 z)⟩
 | false =>
  simp only[XU,if_false,xoB,xoM,xpX,xpJ] at h;obtain⟨u,a1,j1,y,rc,v,a2,j2,rfl,rfl⟩:=h;obtain⟨g1,rfl⟩:=QP hl hk j1;have s1:=(XM hT B.lt j1).1;have C:=gB (B.next s1) true;have s2:=(k8 hT A C j2).1;have s3:=(ZI hT (p:={ a2 with flat:=false }) s2.lt k2).1;obtain⟨v',g2,e2⟩:=FY hT A he C j2;rw[g1];simp only[xbS,XU,if_false,g2,xmS,k2];exact⟨_,rfl,fun z=>by rw[e2 (s3.e0 z)]⟩
theorem Ll(hT:TOK T){e ty g gt:PM Nd}(A:Tot T (m+1) e)(Y:Tot T (m+1) ty)(he:Qr T m (Yn T e) g)(hy:Qr T m (Yn T ty) gt):∀ (n:Nat) (nd nd':Nd) (p:PS),Bd T m p→p.flat=false→(p.e=0→nd'=nd∧nd.kids.length≤60)→EP (YV T e ty n nd p) (Df T g gt n nd' p)
 | 0,nd,nd',p,B,hf,hn=>fun r q h=>by cases h
 | n+1,nd,nd',p,B,hf,hn=>fun r q h=>by
  obtain⟨a,b,k1,k2,h⟩:=LA h;obtain⟨t,hl,ra⟩:=Bm k1;unfold Df;rw[hl];simp only[xbS];have hb:(isT t [116,121,112,101]=true∨isT t [108,101,116]=true)↔b=true:=by
   rw[←ra];cases a with
   | true=>simp only[if_true,xsJ] at k2;subst k2;simp
   | false =>
    simp only[XU,if_false] at k2;obtain⟨t',hl',rb⟩:=Bm k2;rw[hl] at hl';cases hl';rw[←rb];simp
  rcases h with⟨rfl,rfl,rfl⟩ | ⟨rfl,p1,x,p2,k3,k4,h'⟩
  ·rw[if_neg (fun x=>absurd (hb.1 x) (by decide))];exact⟨_,rfl,fun z=>(hn z).1⟩
  ·have hor:=hb.2 rfl;have hk:t.kind≠0:=hor.elim Yo Yo;obtain⟨rfl,hlen⟩:=hn (U' hl hk);rw[if_pos hor];have s1:=YC B.lt k3;have s2:=aS hT A Y (B.next s1) (s1.flat.trans hf) k4;by_cases c:nd'.kids.length=60
   ·rw[Ur (by omega)] at k3;have hne:=Qb k3 (by decide);obtain⟨nd2,q2,y1,y2,y3⟩:=HT hT A Y (a:=0) n (nd'.addKid x) p2 s2.lt ((B.next s1).next s2).lo ((B.next s1).next s2).hi (s2.flat.trans (s1.flat.trans hf)) ⟨by
     cases n with
     | zero=>cases h'
     | succ n=>omega,fun z=>absurd (s2.e0 z) hne⟩ (fun z=>absurd (s2.e0 z) hne)
    rw[y1] at h';cases h';rw[if_pos c,k3];obtain rfl:=(s2.trans y2).err hne;exact⟨_,rfl,fun z=>absurd z hne⟩
   ·obtain rfl:=Hs (by omega) k3;obtain⟨x',g2,e2⟩:=nH hT A Y he hy B hl hk _ _ k4;rw[if_neg c,g2];simp only[xbS];exact Ll hT A Y he hy n _ _ _ (B.next s2) (s2.flat.trans hf) (fun z=>⟨by rw[e2 z],Ga (by omega)⟩) _ _ h'
theorem mO(hK:TKS T){n:Nd}{b e:Int}(h:YI T=some (n,b,e)):D6 T=some (n,b,e):=by
 have hT:=hK.tok;unfold YI at h;simp only[xoM,xpX] at h;obtain⟨r,q,h,hr⟩:=h;unfold KA at h;simp only[xoB,xoM,xpX,xpJ] at h;obtain⟨t,k1,x,p1,k2,p2,k3,u,p3,k4,t',k5,p4,k6,rfl,rfl⟩:=h;have B:Bd T 0 ⟨0,0,false,0,0⟩:=⟨hT.pos,Nat.le_refl _,Nat.zero_le _⟩;have A:=H9 hT 42 1 (by omega);have Y:=Gb hT 42 1 (by omega);have he:=vH hK 42 0 (by omega);have hy:=xN hT 42 0 (by omega);obtain⟨x',g2,e2⟩:=Ll hT A Y he hy _ _ (zw 30 t.pos [] []) _ B rfl (fun _=>⟨rfl,by simp[zw,Nd.kids]⟩) _ _ k2;have s2:Step T ⟨0,0,false,0,0⟩ p1:=by
  obtain⟨nd2,q2,y1,y2,y3⟩:=HT hT A Y (a:=Du T 0) (T.length+2) (zw 30 t.pos [] []) ⟨0,0,false,0,0⟩ B.lt B.lo B.hi rfl (Ej (p:=⟨0,0,false,0,0⟩)) (fun _=>by
   have hg:T[0]?=some t:=by unfold zH at k1;rw[if_pos rfl] at k1;exact k1
   have hp:=Qs (p:=⟨0,0,false,0,0⟩) hg;exact⟨LS ⟨t,hp.2,rfl⟩ (fun c hc=>by cases hc) (by simp),by rw[←hp.1];exact Int.le_refl _,by rw[←hp.1];exact Int.le_refl _,by simp[zw,Nd.kids],by simp[zw,Nd.names]⟩)
  rw[k2] at y1;cases y1;exact y2
 have s3:=(ZI hT s2.lt k3).1;have C:=(B.next s2).next s3;have s4:=((Qt hT A).st C k4).1;obtain⟨u',g4,e4⟩:=he _ C _ _ k4;have s6:Step T p3 p4:=by
  split at k6
  ·exact L6 s4.lt k6
  ·cases k6;exact .refl s4.lt
 unfold D6 hG lP;rw[k1];simp only[xmS,xbS,g2,k3,g4,k5,k6];by_cases z:p4.e=0
 ·rw[if_pos z] at hr ⊢;have z3:=s6.e0 z;rw[e4 z3,e2 (s3.e0 (s4.e0 z3)),hr]
 ·rw[if_neg z] at hr ⊢;rw[hr]
end Go.AL
namespace Go.AL
theorem nI:∀ c∈signsL,[c] ∉ keysL:=by decide
theorem ew{w:Tx}{p:Int}{t:Tk}{n:Nat}(h:XO w p = .ok (t,n)):(t.kind=6→t.text∈keysL)∧(t.kind=5→t.text ∉ keysL):=by
 unfold XO at h;split at h
 ·cases h
 rename_i c r;split at h
 ·split at h
  ·cases h
  ·cases h;exact⟨fun x=>by simp at x,fun x=>by simp at x⟩
 split at h
 ·split at h
  ·cases h
  ·cases h;exact⟨fun x=>by simp at x,fun x=>by simp at x⟩
 split at h
 ·split at h
  ·cases h
  ·cases h;refine⟨fun x=>?_,fun x=>?_⟩
   ·dsimp only at x ⊢;split at x
    ·omega
    ·split at x
     ·assumption
     ·omega
   ·dsimp only at x;split at x
    ·omega
    ·split at x <;> omega
 split at h
 ·rename_i hs;split at h
  ·cases h;exact⟨fun x=>by simp at x,fun _=>by show ([45,62]:Tx) ∉ keysL;decide⟩
  ·cases h;exact⟨fun x=>by simp at x,fun _=>nI c hs⟩
 ·cases h
theorem iZ{s:Tx}{k:Nat}{T:List Tk}(h:Lx s k T):TKS T:=by
 have key:∀ t∈T,(t.kind=6→t.text∈keysL)∧(t.kind=5→t.text ∉ keysL):=by
  induction h with
  | nil=>intro t ht;simp only[List.mem_singleton] at ht;subst ht;exact⟨fun x=>by simp at x,fun x=>by simp at x⟩
  | cons h1 h2 _ ih =>
   intro t ht;rcases List.mem_cons.1 ht with rfl | ht
   ·exact ew h2
   ·exact ih t ht
 exact⟨(uV h).1,fun t ht=>(key t ht).1,fun t ht=>(key t ht).2⟩
theorem Dp(n c:Nd):(n.addKid c).kind=n.kind:=by cases n;rfl
theorem Fa{T:List Tk}{e ty:PM Nd}:∀ (n:Nat) (nd r:Nd) (p q:PS),YV T e ty n nd p=some (r,q)→r.kind=nd.kind
 | 0,nd,r,p,q,h=>by cases h
 | n+1,nd,r,p,q,h=>by
  obtain⟨a,b,_,_,h⟩:=LA h;rcases h with⟨_,rfl,_⟩ | ⟨_,p1,c,p2,_,_,h⟩
  ·rfl
  ·rw[Fa n _ _ _ _ h,Dp]
theorem jO{s:Tx}{n:Nd}{a e:Int}(h:qp s=some (n,a,e)):(e=0→n.kind=30)∧(e≠0→n=Wf):=by
 unfold qp at h;cases hl:X8 s with
 | error x =>
  obtain⟨b,f⟩:=x;rw[hl] at h;cases h;exact⟨fun z=>absurd z (Wa hl),fun _=>rfl⟩
 | ok T =>
  rw[hl] at h;dsimp only at h;unfold YI at h;simp only[xoM,xpX] at h;obtain⟨r,q,h,hr⟩:=h;unfold KA at h;simp only[xoB,xoM,xpX,xpJ] at h;obtain⟨t,k1,x,p1,k2,p2,k3,u,p3,k4,t',k5,p4,k6,rfl,rfl⟩:=h;by_cases z:p4.e=0
  ·rw[if_pos z] at hr;cases hr;exact⟨fun _=>by rw[Dp,Fa _ _ _ _ _ k2];rfl,fun x=>absurd rfl x⟩
  ·rw[if_neg z] at hr;cases hr;exact⟨fun x=>absurd x z,fun _=>rfl⟩
theorem wz{s:Tx}{n:Nd}{a e:Int}(h:qp s=some (n,a,e)):(∃ b,X8 s = .error (b,e)∧a=b∧n=Wf∧e≠0)∨∃ T,X8 s = .ok T∧T.length≤2001∧D6 T=some (n,a,e):=by
 unfold qp at h;cases hl:X8 s with
 | error x =>
  obtain⟨b,f⟩:=x;rw[hl] at h;cases h;exact .inl ⟨b,rfl,rfl,rfl,Wa hl⟩
 | ok T =>
  rw[hl] at h;exact .inr ⟨T,rfl,Bj hl,mO (iZ (Uo hl).1) h⟩
end Go.AL
