/- The document's parser does as the program's: types, declarations of types, patterns. -/
import Derived.Test.YtkokccjfpebomaaGreatDoorS7
import Derived.Test.YtkokccjfpebomaaGreatDoorN9
set_option linter.all false
namespace Go.AL
variable {T:List Tk} {m:Nat}
structure TKS (T:List Tk):Prop where
 tok:TOK T
 key:∀ t∈T,t.kind=6→t.text∈keysL
 sgn:∀ t∈T,t.kind=5→t.text ∉ keysL
def Es(x y:Option (Nd×PS)):Prop:=∀ r q,x=some (r,q)→∃ r',y=some (r',q)∧(q.e=0→r'=r)
def Qg(T:List Tk)(m:Nat)(F G:PM Nd):Prop:=∀ p:PS,Bd T m p→Es (F p) (G p)
theorem Up{p:PS}{t:Tk}(h:zE T p=some t)(hk:t.kind≠0):p.e=0:=by
 by_cases c:p.e=0
 ·exact c
 ·unfold zE at h;rw[if_neg c] at h;cases h;exact absurd rfl hk
theorem ka{p:PS}{t:Tk}(h:zE T p=some t)(c:¬ p.e=0):t=gQ:=by
 unfold zE at h;rw[if_neg c] at h;cases h;rfl
theorem DX{p:PS}{t:Tk}(h:zE T p=some t)(hk:t.kind≠0):t∈T:=by
 have c:=Up h hk;unfold zE at h;rw[if_pos c] at h;exact List.mem_of_getElem? h
theorem QD{p q:PS}{t u:Tk}(h:zE T p=some t)(hk:t.kind≠0)(ht:ZG T p=some (u,q)):Zv T p=some (t,q)∧u=t:=by
 have he:=Up h hk;have h2:=(Kz ht).1;rw[h] at h2;cases h2;refine⟨?_,rfl⟩;unfold Zv;unfold ZG at ht;rw[h] at ht ⊢;simp only[xmS,he,hk,ne_eq,not_false_eq_true,and_self,if_true,xsJ,xpJ] at ht;obtain⟨_,rfl⟩:=ht;simp only[xmS,hk,if_false,he]
theorem WF{p q:PS}{s:Tx}{b:Bool}(k:Xc T s p=some (b,q)):∃ t,zE T p=some t∧isT t s=b∧Ye T s p=some b∧(b=true→Zv T p=some (t,q)∧p.e=0)∧(b=false→q=p):=by
 obtain⟨t,h1,h2,h3⟩:=oF k;refine⟨t,h1,h2.symm,by unfold Ye;rw[h1,h2];rfl,fun hb=>?_,fun hb=>?_⟩
 ·rw[if_pos hb] at h3;have hk:=Yj (h2.symm.trans hb);exact⟨(QD h1 hk h3).1,Up h1 hk⟩
 ·rw[hb] at h3;simpa using h3
theorem uR{p q:PS}{s:Tx}{t:Tk}(h:zE T p=some t)(hs:isT t s=true)(k:qp T s p=some q):Zv T p=some (t,q):=by
 obtain⟨b,q',h1,h2⟩:=dF k;obtain⟨t',g1,g2,_,g3,_⟩:=WF h1;rw[h] at g1;cases g1;rw[hs] at g2;subst g2;rw[if_pos rfl] at h2;subst h2;exact (g3 rfl).1
theorem uN{p q:PS}{k:Int}{t u:Tk}(h:zE T p=some u)(k1:Qn T k p=some (t,q))(z:q.e=0):t=u:=by
 obtain⟨v,p1,h1,h2,h3⟩:=DI k1;rw[h] at h1;cases h1;have ht:=Kz h3;by_cases c:u.kind=k
 ·rw[if_neg (by simp[c])] at h2;subst h2;rw[h] at ht;exact (Option.some.inj ht.1).symm
 ·rw[if_pos c] at h2;have hne:=Ql h2 (by decide);have hq:=ht.2;rw[if_neg (fun x=>hne x.1)] at hq;subst hq;exact absurd z hne
theorem wC{n N:Nat}{p:PS}(h:n≤N):U5 T (n=N) p=ZE T n N p:=by
 unfold U5 ZE;by_cases c:n=N
 ·rw[if_pos c,if_pos (by omega)]
 ·rw[if_neg c,if_neg (by omega)]
theorem Ln{n M:Int}{p q:PS}(h:ZE T n M p=some q)(z:q.e=0):n<M:=by
 unfold ZE at h;split at h
 ·exact absurd z (Ql h (by decide))
 ·omega
theorem KR{n M:Int}{p:PS}(h:M≤n):ZE T n M p=Zh T 16 p:=by unfold ZE;rw[if_pos h]
theorem UN{n M:Int}{p q:PS}(h:n<M)(k:ZE T n M p=some q):q=p:=by unfold ZE at k;rw[if_neg (by omega)] at k;exact (Option.some.inj k).symm
theorem VV{e g:PM Nd}(he:Qg T (m+1) e g):Qg T m (Ys T e) (YT T g):=by
 intro p B r q h;unfold Ys at h;have hi:=B.hi;have hc:(40≤p.deep)=(p.deep=40):=propext ⟨fun h=>by omega,fun h=>by omega⟩;simp only[hc,xoB] at h;obtain⟨p1,h1,h⟩:=h;unfold YT;rw[if_neg (by omega),h1];simp only[xbS];by_cases c:p1.e≠0
 ·rw[if_pos c] at h ⊢;cases h;exact⟨_,rfl,fun _=>rfl⟩
 ·rw[if_neg c] at h ⊢;have h40:¬ p.deep=40:=fun x=>by
   rw[if_pos x] at h1;exact c (Ql h1 (by decide))
  rw[if_neg h40] at h1;cases h1;simp only[xoB,xpX] at h;obtain⟨x,p2,k2,h⟩:=h;obtain⟨x',g1,g2⟩:=he _ (CQ B (by omega)) _ _ k2;rw[g1];simp only[xbS];split at h
  ·cases h
  ·rename_i c2;cases h;rw[if_neg c2];exact⟨x',rfl,fun z=>g2 z⟩
theorem D6{G:PM Nd}:Qg T m (fun _=>none) G:=fun p B r q h=>by cases h
theorem Lc(hT:TOK T){e g:PM Nd}(A:Tot T (m+1) e)(he:Qg T m (Ys T e) g):∀ (n:Nat) (nd nd':Nd) (p:PS),Bd T m p→(p.e=0→nd'=nd)→Es (j' T e n nd p) (jq T g n nd' p)
 | 0,nd,nd',p,B,hn=>fun r q h=>by cases h
 | n+1,nd,nd',p,B,hn=>fun r q h=>by
  unfold j' at h;simp only[xoB] at h;obtain⟨t,k1,h⟩:=h;by_cases c0:p.e=0
  rotate_left
  ·have ht:=ka k1 c0;subst ht;rw[if_neg (by decide)] at h;simp only[xoB] at h;obtain⟨b,k2,h⟩:=h;have hb:b=false:=by unfold Ye at k2;rw[k1] at k2;cases k2;rfl
   subst hb;cases h;exact⟨nd',by unfold jq;rw[if_neg c0],fun z=>absurd z c0⟩
  obtain rfl:=hn c0;unfold jq;rw[if_pos c0,k1];simp only[xbS];split at h
  ·rename_i c;simp only[xoB,xpX] at h;obtain⟨u,a,k2,h⟩:=h;obtain⟨g1,rfl⟩:=QD k1 (by omega) k2;rw[if_pos c,g1];simp only[xbS];exact Lc hT A he n _ _ _ (B.next (Xz hT B.lt k2).1) (fun _=>rfl) _ _ h
  ·rename_i c;simp only[xoB] at h;obtain⟨b,k2,h⟩:=h;obtain⟨u,hu,rfl⟩:=Dy k2;rw[k1] at hu;cases hu;rw[if_neg c];split at h
   ·rename_i cb;simp only[xoB,xpX] at h;obtain⟨x,p1,k3,h⟩:=h;rw[if_pos cb];unfold Y0 at k3;simp only[xoB,xoM,xpX,xpJ] at k3;obtain⟨p2,k4,y,p3,k5,p4,k6,rfl,rfl⟩:=k3;have s1:=(Zz hT B.lt k4).1;have s2:=((Qh hT A).st (B.next s1) k5).1;have s3:=(Zz hT s2.lt k6).1;obtain⟨x',g2,e2⟩:=he _ (B.next s1) _ _ k5;rw[uR k1 cb k4];simp only[xbS,g2,k6];exact Lc hT A he n _ _ _ (((B.next s1).next s2).next s3) (fun z=>by rw[e2 (s3.e0 z)]) _ _ h
   ·rename_i cb;cases h;rw[if_neg cb];exact⟨_,rfl,fun _=>rfl⟩
theorem sk(hT:TOK T){e g:PM Nd}(A:Tot T (m+1) e)(he:Qg T m (Ys T e) g):Qg T m (ma T e) (Is T g):=by
 intro p B r q h;unfold ma at h;simp only[xoB,xpX] at h;obtain⟨t,p1,k1,h⟩:=h;obtain⟨u,_,hu,_⟩:=DI k1;unfold Is bU J3;rw[hu,k1];simp only[xmS,xbS];exact Lc hT A he _ _ _ _ (B.next (Wx hT B.lt (by decide) k1).1) (fun z=>by rw[uN hu k1 z]) _ _ h
theorem yv(hT:TOK T):∀ (n m:Nat),42≤m+n→Qg T m (Ys T (BC T n)) (YT T (Mm T n))
 | 0,m,h=>VV D6
 | n+1,m,h=>VV (sk hT (Dk hT n (m+2) (by omega)) (yv hT n (m+1) (by omega)))
theorem wf(hT:TOK T){e g:PM Nd}(A:Tot T (m+1) e)(he:Qg T m (Ys T e) g):∀ (n:Nat) (s:Tx) (b:Bool) (nd nd':Nd) (p0 p:PS),Xc T s p0=some (b,p)→Bd T m p0→(p.e=0→nd'=nd∧nd.kids.length≤4)→Es (Um T e n b nd p) (BF T g n b nd' p0)
 | 0,s,b,nd,nd',p0,p,k0,B,hn=>fun r q h=>by cases h
 | n+1,s,b,nd,nd',p0,p,k0,B,hn=>fun r q h=>by
  obtain⟨t,h1,h2,h3,h4,h5⟩:=WF k0;unfold Um at h;unfold BF;cases b with
  | false =>
   obtain rfl:=h5 rfl;simp only[Yd,false_and,if_false] at h ⊢;cases h;exact⟨_,rfl,fun z=>(hn z).1⟩
  | true =>
   have s0:=WE hT B.lt k0;have e0:=(h4 rfl).2;have ep:p.e=0:=by
    obtain⟨b',q',k',_,he',_⟩:=VL hT B.lt s;rw[k0] at k';cases k';exact he'.trans e0
   obtain⟨rfl,hl⟩:=hn ep;rw[if_pos ⟨rfl,ep⟩] at h;rw[if_pos ⟨rfl,e0⟩,(h4 rfl).1];simp only[xoB,xpX] at h;obtain⟨p1,k1,x,p2,k2,b2,p3,k3,h⟩:=h;have B1:=(B.next s0).next (Yq s0.lt k1);have s2:=((Qh hT A).st B1 k2).1;obtain⟨x',g2,e2⟩:=he _ B1 _ _ k2;simp only[xbS];rw[wC hl,show ZE T (nd'.kids.length:Int) ((4:Nat):Int) p=some p1 from k1];simp only[xbS,g2];obtain⟨_,_,_,g3,_⟩:=WF k3;rw[g3];simp only[xbS];have s3:=WE hT s2.lt k3;exact wf hT A he n [44] b2 _ _ p2 p3 k3 (B1.next s2) (fun z=>⟨by rw[e2 (s3.e0 z)],by
    have:=Ln k1 (s2.e0 (s3.e0 z));cases nd';simp[Nd.addKid,Nd.kids] at this ⊢;omega⟩) _ _ h
theorem oR(hT:TOK T){e g:PM Nd}(A:Tot T (m+1) e)(he:Qg T m (Ys T e) g):Qg T m (HG T e) (wX T g):=by
 intro p B r q h;unfold HG at h;simp only[xoB,xpX] at h;obtain⟨t,p1,k1,b,p2,k2,h⟩:=h;obtain⟨u,_,hu,_⟩:=DI k1;have s1:=(Wx hT B.lt (by decide) k1).1;have s2:=WE hT s1.lt k2;obtain⟨_,_,_,g3,_,g5⟩:=WF k2;unfold wX bU J3;rw[hu,k1];simp only[xmS,xbS,g3];refine wf hT A he _ [111,102] b (zr 26 t.pos t.text []) _ p1 p2 k2 (B.next s1) (fun z=>⟨by rw[uN hu k1 (s2.e0 z)],by simp[zr,Nd.kids]⟩) _ _ ?_;cases b with
 | true=>exact h
 | false=>exact h
theorem DH(hT:TOK T):∀ (n:Nat) (nd nd':Nd) (p:PS),Bd T m p→(p.e=0→nd'=nd∧nd.names.length≤4)→Es (QF T n nd p) (KX T n nd' p)
 | 0,nd,nd',p,B,hn=>fun r q h=>by cases h
 | n+1,nd,nd',p,B,hn=>fun r q h=>by
  unfold QF at h;unfold KX;simp only[xoB] at h;obtain⟨t,k1,h⟩:=h;rw[k1];simp only[xbS];split at h
  ·rename_i c;obtain⟨rfl,hl⟩:=hn (Up k1 (by omega));simp only[xoB,xpX] at h;obtain⟨p1,k2,u,p2,k3,h⟩:=h;have s1:=Yq B.lt k2;have s2:=(Xz hT s1.lt k3).1;rw[if_pos c];by_cases c4:nd'.names.length=4
   ·rw[KR (by omega)] at k2;have hne:=Ql k2 (by decide);have s3:=HJ hT n _ _ _ _ ((B.next s1).next s2) h;rw[if_pos c4,k2];obtain rfl:=(s2.trans s3).err hne;exact⟨_,rfl,fun z=>absurd z hne⟩
   ·obtain rfl:=UN (by omega) k2;obtain⟨g1,rfl⟩:=QD k1 (by omega) k3;rw[if_neg c4,g1];simp only[xbS];exact DH hT n _ _ _ (B.next s2) (fun _=>⟨rfl,by cases nd';simp[Nd.addName,Nd.names] at c4 hl ⊢;omega⟩) _ _ h
  ·rename_i c;cases h;rw[if_neg c];exact⟨_,rfl,fun z=>(hn z).1⟩
theorem Dc:∀ {n:Nat} {nd c:Nd},nd.kids.length<n→(nd.addKid c).kids.length≤n:=fun {n nd c} h=>by cases nd;simp[Nd.addKid,Nd.kids] at h ⊢;omega
theorem BU(hT:TOK T){e g:PM Nd}(A:Tot T (m+1) e)(he:Qg T m (Ys T e) g):∀ (n:Nat) (b:Bool) (nd nd':Nd) (p:PS),Bd T m p→(p.e=0→nd'=nd∧nd.kids.length≤20)→Es (Y7 T e n b nd p) (H0 T g n b nd' p)
 | 0,b,nd,nd',p,B,hn=>fun r q h=>by cases h
 | n+1,b,nd,nd',p,B,hn=>fun r q h=>by
  unfold Y7 at h;unfold H0;by_cases c:b=true∧p.e=0
  ·obtain⟨rfl,hl⟩:=hn c.2;rw[if_pos c] at h ⊢;simp only[xoB,xpX] at h;obtain⟨p1,k1,x,p2,k2,b2,p3,k3,h⟩:=h;have B1:=B.next (Yq B.lt k1);have s2:=((LM hT A).st B1 k2).1;have s3:=WE hT s2.lt k3;obtain⟨x',g2,e2⟩:=oR hT A he _ B1 _ _ k2;rw[wC hl,show ZE T (nd'.kids.length:Int) ((20:Nat):Int) p=some p1 from k1];simp only[xbS,g2,k3];exact BU hT A he n b2 _ _ p3 ((B1.next s2).next s3) (fun z=>⟨by rw[e2 (s3.e0 z)],Dc (by have:=Ln k1 (s2.e0 (s3.e0 z));omega)⟩) _ _ h
  ·rw[if_neg c] at h ⊢;cases h;exact⟨_,rfl,fun z=>(hn z).1⟩
theorem Qm{t:Tk}{s:Tx}:isT t s=true↔(t.kind=5∨t.kind=6)∧t.text=s:=by
 unfold isT;simp
theorem JG{t:Tk}{s:Tx}(h:¬ (t.kind=5∨t.kind=6)):¬ isT t s=true:=fun x=>h (Qm.1 x).1
theorem GR{t:Tk}{s:Tx}(h:t.text≠s):¬ isT t s=true:=fun x=>h (Qm.1 x).2
theorem Va{kinds:List (Int×Int)}{p q:PS}{r:Nd}{t:Tk}(hl:zE T p=some t)(k:Int)(hk:k≠0)(hf:((kinds.find? fun q=>q.1==t.kind).map (·.2)).getD 0=k)(h0:t.kind≠0)(h:XC T kinds p=some (r,q)):Y8 T k p=some (r,q):=by
 unfold XC at h;rw[hl] at h;simp only[xbS,hf] at h;rw[if_neg hk] at h;simp only[xoM,xpX,xpJ] at h;obtain⟨u,a,h1,rfl,rfl⟩:=h;obtain⟨g1,rfl⟩:=QD hl h0 h1;unfold Y8;rw[g1];rfl
theorem DL{kinds:List (Int×Int)}{p q:PS}{r:Nd}{t:Tk}(hl:zE T p=some t)(hf:((kinds.find? fun q=>q.1==t.kind).map (·.2)).getD 0=0)(h:XC T kinds p=some (r,q)):Zh T 14 p=some q∧r=VQ:=by
 unfold XC at h;rw[hl] at h;simp only[xbS,hf,if_true,xoM,xpJ] at h;obtain⟨a,h1,rfl,rfl⟩:=h;exact⟨h1,rfl⟩
theorem Fl(hT:TOK T){e g:PM Nd}(A:Tot T (m+1) e)(he:Qg T m (Ys T e) g):Qg T m (QW T e) (Uh T g):=by
 intro p B r q h;unfold QW at h;unfold Uh;simp only[xoB,xpX] at h;obtain⟨t,k1,b,p1,k2,h⟩:=h;obtain⟨u,hu,h2,h3,h4,h5⟩:=WF k2;rw[k1] at hu;cases hu;rw[k1];simp only[xbS];cases b with
 | true =>
  have hi:=Qm.1 h2;have h56:t.kind≠1∧t.kind≠3∧t.kind≠4:=by omega
  rw[if_neg h56.1,if_neg h56.2.1,if_neg h56.2.2,if_pos h2,(h4 rfl).1];cases h;exact⟨_,rfl,fun _=>rfl⟩
 | false =>
  obtain rfl:=h5 rfl;simp only[Yd,if_false,xoB] at h;obtain⟨b,k3,h⟩:=h;obtain⟨u,hu,rfl⟩:=Dy k3;rw[k1] at hu;cases hu;split at h
  ·rename_i cb;have hi:=Qm.1 cb;have h56:t.kind≠1∧t.kind≠3∧t.kind≠4:=by omega
   rw[if_neg h56.1,if_neg h56.2.1,if_neg h56.2.2,if_neg (by rw[h2];decide),if_pos cb];unfold Y0 at h;simp only[xoB,xoM,xpX,xpJ] at h;obtain⟨p2,k4,y,p3,k5,p4,k6,rfl,rfl⟩:=h;have s1:=(Zz hT B.lt k4).1;have s2:=((Qh hT A).st (B.next s1) k5).1;have s3:=(Zz hT s2.lt k6).1;obtain⟨x',g2,e2⟩:=he _ (B.next s1) _ _ k5;rw[uR k1 cb k4];simp only[xbS,g2,k6,xmS];exact⟨_,rfl,fun z=>e2 (s3.e0 z)⟩
  ·rename_i cb;by_cases c1:t.kind=1
   ·rw[if_pos c1,Va k1 1 (by decide) (by rw[c1];rfl) (by omega) h];exact⟨_,rfl,fun _=>rfl⟩
   by_cases c3:t.kind=3
   ·rw[if_neg c1,if_pos c3,Va k1 4 (by decide) (by rw[c3];rfl) (by omega) h];exact⟨_,rfl,fun _=>rfl⟩
   by_cases c4:t.kind=4
   ·rw[if_neg c1,if_neg c3,if_pos c4,Va k1 5 (by decide) (by rw[c4];rfl) (by omega) h];exact⟨_,rfl,fun _=>rfl⟩
   obtain⟨f1,rfl⟩:=DL k1 (by
    have a1:((1:Int)==t.kind)=false:=by simp;omega
    have a3:((3:Int)==t.kind)=false:=by simp;omega
    have a4:((4:Int)==t.kind)=false:=by simp;omega
    simp[List.find?_cons,a1,a3,a4]) h
   rw[if_neg c1,if_neg c3,if_neg c4,if_neg (by rw[h2];decide),if_neg cb,f1];exact⟨_,rfl,fun _=>rfl⟩
theorem j8(hT:TOK T){e g:PM Nd}(A:Tot T (m+1) e)(he:Qg T m (Ys T e) g):∀ (n:Nat) (b:Bool) (nd nd':Nd) (p:PS),Bd T m p→(b=true→p.e=0→nd'=nd∧nd.kids.length≤4)→(p.e=0→nd'=nd)→Es (JM T e n b nd p) (EK T g n b nd' p)
 | 0,b,nd,nd',p,B,hn,hz=>fun r q h=>by cases h
 | n+1,false,nd,nd',p,B,hn,hz=>fun r q h=>by
  unfold JM at h;unfold EK;cases h;exact⟨_,rfl,hz⟩
 | n+1,true,nd,nd',p,B,hn,hz=>fun r q h=>by
  unfold JM at h;unfold EK;rw[if_pos rfl] at h ⊢;simp only[xoB] at h;obtain⟨b,k1,h⟩:=h;rw[k1];simp only[xbS];cases b with
  | false=>cases h;exact⟨_,rfl,hz⟩
  | true =>
   have e0:p.e=0:=by
    obtain⟨b',hb',hx⟩:=Ge (T:=T) B.lt;rw[k1] at hb';cases hb';exact hx rfl
   obtain⟨rfl,hl⟩:=hn rfl e0;simp only[if_true,xoB,xpX] at h ⊢;obtain⟨p1,k2,x,p2,k3,h⟩:=h;have s1:=Yq B.lt k2;have s2:=((V7 hT A).st (B.next s1) k3).1;by_cases c4:nd'.kids.length=4
   ·rw[KR (by omega)] at k2;have hne:=Ql k2 (by decide);have s3:=yz hT A n _ _ _ _ _ ((B.next s1).next s2) h;rw[if_pos c4,k2];obtain rfl:=(s2.trans s3).err hne;exact⟨_,rfl,fun z=>absurd z hne⟩
   ·obtain rfl:=UN (by omega) k2;obtain⟨x',g2,e2⟩:=Fl hT A he _ B _ _ k3;rw[if_neg c4,g2];simp only[xbS];exact j8 hT A he n true _ _ _ (B.next s2) (fun _ z=>⟨by rw[e2 z],Dc (by omega)⟩) (fun z=>by rw[e2 z]) _ _ h
theorem BM{kinds:List (Int×Int)}{p q:PS}{r:Nd}(h:XC T kinds p=some (r,q)):r.kids=[]:=by
 unfold XC at h;simp only[xoB] at h;obtain⟨t,_,h⟩:=h;split at h
 ·simp only[xoM,xpJ] at h;obtain⟨_,_,rfl,_⟩:=h;rfl
 ·simp only[xoM,xpX,xpJ] at h;obtain⟨_,_,_,rfl,_⟩:=h;rfl
theorem oc(hT:TOK T){e g:PM Nd}(A:Tot T (m+1) e)(he:Qg T m (Ys T e) g):Qg T m (HR T e) (pK T g):=by
 intro p B r q h;unfold HR at h;unfold pK;simp only[xoB,xpX] at h;obtain⟨t,k1,x,p1,k2,h⟩:=h;have s1:=((V7 hT A).st B k2).1;obtain⟨x',g2,e2⟩:=Fl hT A he _ B _ _ k2;rw[k1];simp only[xbS,g2];refine j8 hT A he _ _ _ _ _ (B.next s1) (fun hb z=>⟨e2 z,?_⟩) e2 _ _ h;have hk:t.kind=4:=by simpa using hb
 have hx:x.kids=[]:=by
  unfold QW at k2;rw[k1] at k2;have n1:isT t [95]=false:=by simp[isT,hk]
  have n2:isT t [40]=false:=by simp[isT,hk]
  simp only[xbS,Xc,Ye,k1,xmS,n1,n2,Yd,if_false] at k2;exact BM k2
 rw[hx];exact Nat.zero_le _
theorem L6(hT:TOK T):∀ (n m:Nat),42≤m+n→Qg T m (Ys T (Qj T n)) (YT T (ow T n))
 | 0,m,h=>VV D6
 | n+1,m,h=>VV (oc hT (Hq hT n (m+2) (by omega)) (L6 hT n (m+1) (by omega)))
end Go.AL
namespace Go.AL
variable {T:List Tk} {m:Nat}
theorem VO{e g:PM Nd}(he:Qg T m (Ys T e) g):Qg T m (Xe T e) (QY g):=by
 intro p B r q h;unfold Xe at h;unfold QY;simp only[xoM,xpX,xpJ] at h;obtain⟨c,a,k,rfl,rfl⟩:=h;obtain⟨x',g1,g2⟩:=he _ (xj B false) _ _ k;rw[g1];exact⟨x',rfl,g2⟩
theorem gC(n a b:Nd):(n.addKids [a,b]).kids.length=n.kids.length+2:=by cases n;simp[Nd.addKids,Nd.kids]
theorem ju(n a b:Nd):n.addKids [a,b]=(n.addKid a).addKid b:=by cases n;simp[Nd.addKids,Nd.addKid]
theorem jU(k:Nat):Int.tdiv ((2*k+1:Nat):Int) 2=(k:Int):=by
 show (((2*k+1) / 2:Nat):Int)=(k:Int);omega
theorem Gc(hT:TOK T){e pt g gp:PM Nd}(A:Tot T (m+1) e)(P:Tot T (m+1) pt)(he:Qg T m (Ys T e) g)(hp:Qg T m (Ys T pt) gp):∀ (n:Nat) (f b:Bool) (nd nd':Nd) (p:PS),Bd T m p→(if f=true then some true else Ye T [124] p)=some b→(p.e=0→nd'=nd∧∃ k,nd.kids.length=2*k+1∧k≤20)→Es (Q1 T e pt n f nd p) (KY T g gp n b nd' p)
 | 0,f,b,nd,nd',p,B,hb,hn=>fun r q h=>by cases h
 | n+1,f,b,nd,nd',p,B,hb,hn=>fun r q h=>by
  obtain⟨b',k0,h⟩:=Gl h;rw[hb] at k0;cases k0;unfold KY;rcases h with⟨rfl,rfl,rfl⟩ | ⟨rfl,c,w,p5,hr,h⟩
  ·rw[if_neg (by decide)];exact⟨_,rfl,fun z=>(hn z).1⟩
  rw[if_pos rfl];obtain⟨p1,p2,p3,p4,k1,k2,k3,k4,k5⟩:=hr.h;have s1:=Yq B.lt k1;have s2:=(Zz hT s1.lt k2).1;have B2:=(B.next s1).next s2;have s3:=((Qh hT P).st B2 k3).1;have s4:=(Zz hT s3.lt k4).1;have B4:=(B2.next s3).next s4;have s5:=((Q4 hT A).st B4 k5).1;obtain⟨c',g3,e3⟩:=hp _ B2 _ _ k3;obtain⟨w',g5,e5⟩:=VO he _ B4 _ _ k5;obtain⟨b2,hb2,_⟩:=K5 (T:=T) s5.lt [124];have hcap:U5 T (nd'.kids.length=41) p=some p1:=by
   by_cases e0:p.e=0
   ·obtain⟨rfl,k,hk,hl⟩:=hn e0;unfold U5;unfold ZE at k1;rw[hk,jU k] at k1;rw[hk];by_cases c20:k=20
    ·rw[if_pos (by omega)] at k1 ⊢;exact k1
    ·rw[if_neg (by omega)] at k1 ⊢;exact k1
   ·obtain rfl:=s1.err e0;unfold U5;split
    ·unfold Zh;rw[if_neg e0]
    ·rfl
  rw[hcap];simp only[xbS,k2,g3,k4,g5,hb2];rw[ju] at h;refine Gc hT A P he hp n false b2 _ _ p5 (B4.next s5) (by simpa using hb2) (fun z=>?_) _ _ h;have z4:=s5.e0 z;have z3:=s4.e0 z4;have z0:=s1.e0 (s2.e0 (s3.e0 z3));obtain⟨rfl,k,hk,hl⟩:=hn z0;refine⟨by rw[e3 z3,e5 z],k+1,by rw[←ju,gC];omega,?_⟩;have:=Ln k1 (s2.e0 (s3.e0 z3));rw[hk,jU] at this;omega
theorem gJ(hT:TOK T){e pt g gp:PM Nd}(A:Tot T (m+1) e)(P:Tot T (m+1) pt)(he:Qg T m (Ys T e) g)(hp:Qg T m (Ys T pt) gp){p:PS}(B:Bd T m p){t:Tk}(hl:zE T p=some t)(hk:t.kind≠0) :
  Es (JH T e pt p) ((Zv T p).bind fun r=>(QY g r.2).bind fun q=>(qp T [119,105,116,104] q.2).bind fun p1=>GF T g gp t.pos q.1 p1):=by
 intro r q h;unfold JH at h;simp only[xoB,xoM,xpX,xpJ] at h;obtain⟨t1,a1,k1,w1,a2,k2,a3,k3,n1,a4,k4,a5,k5,rfl,rfl⟩:=h;obtain⟨g1,rfl⟩:=QD hl hk k1;have s1:=(Xz hT B.lt k1).1;have s2:=((Q4 hT A).st (B.next s1) k2).1;have s3:=(Zz hT s2.lt k3).1;have C1:=((B.next s1).next s2).next s3;have s4:=BQ hT A P _ _ _ _ _ _ C1 k4;have s5:=(Zz hT s4.lt k5).1;obtain⟨w',g2,e2⟩:=VO he _ (B.next s1) _ _ k2;unfold GF;rw[g1];simp only[xbS,g2,k3];obtain⟨n',g4,e4⟩:=Gc hT A P he hp _ true true _ (zr 11 t1.pos [] [w']) a3 C1 rfl (fun z=>⟨by rw[e2 (s3.e0 z)],0,by simp[zr,Nd.kids],by omega⟩) _ _ k4;rw[g4];simp only[xbS,k5,xmS];exact⟨_,rfl,fun z=>e4 (s5.e0 z)⟩
theorem bK(hT:TOK T){e g:PM Nd}(A:Tot T (m+1) e)(he:Qg T m (Ys T e) g){p:PS}(B:Bd T m p){t:Tk}(hl:zE T p=some t)(hk:t.kind≠0) :
  Es (E6 T e p) ((Zv T p).bind fun r=>(QY g r.2).bind fun q=>(qp T [119,105,116,104] q.2).bind fun p1=>cy T g t.pos q.1 p1):=by
 intro r q h;unfold E6 at h;simp only[xoB,xoM,xpX,xpJ] at h;obtain⟨t1,a1,k1,w1,a2,k2,a3,k3,u,a4,k4,a5,k5,v,a6,k6,a7,k7,rfl,rfl⟩:=h;obtain⟨g1,rfl⟩:=QD hl hk k1;have s1:=(Xz hT B.lt k1).1;have s2:=((Q4 hT A).st (B.next s1) k2).1;have s3:=(Zz hT s2.lt k3).1;have s4:=(Wx hT s3.lt (by decide) k4).1;have s5:=(Zz hT s4.lt k5).1;have C1:=((((B.next s1).next s2).next s3).next s4).next s5;have s6:=((Q4 hT A).st C1 k6).1;have s7:=(Zz hT s6.lt k7).1;obtain⟨w',g2,e2⟩:=VO he _ (B.next s1) _ _ k2;obtain⟨v',g6,e6⟩:=VO he _ C1 _ _ k6;unfold cy J3;rw[g1];simp only[xbS,g2,k3,k4,xmS,k5,g6,k7];exact⟨_,rfl,fun z=>by
  have z6:=s7.e0 z;rw[e6 z6,e2 (s3.e0 (s4.e0 (s5.e0 (s6.e0 z6))))]⟩
theorem V3(hT:TOK T){e pt g gp:PM Nd}(A:Tot T (m+1) e)(P:Tot T (m+1) pt)(he:Qg T m (Ys T e) g)(hp:Qg T m (Ys T pt) gp):Qg T m (ZV T e pt) (Je T g gp):=by
 intro p B r q h;unfold ZV at h;unfold Je;simp only[xoB] at h;obtain⟨t,k1,h⟩:=h;rw[k1];simp only[xbS];by_cases c5:t.kind=5∨t.kind=6
 ·rw[if_neg (show ¬ t.kind=1 by omega),if_neg (show ¬ t.kind=2 by omega),if_neg (show ¬ t.kind=3 by omega),if_neg (show ¬ t.kind=4 by omega)];have hk:t.kind≠0:=by omega
  split at h
  ·rename_i c;have hx:=(Qm.1 c).2;rw[if_neg (GR (by rw[hx];decide)),if_neg (GR (by rw[hx];decide)),if_neg (GR (by rw[hx];decide)),if_pos c];exact gJ hT A P he hp B k1 hk _ _ h
  rename_i cm;split at h
  ·rename_i c;have hx:=(Qm.1 c).2;rw[if_neg (GR (by rw[hx];decide)),if_neg (GR (by rw[hx];decide)),if_pos c];exact bK hT A he B k1 hk _ _ h
  rename_i ct;split at h
  ·rename_i c;simp only[xoM,xpX,xpJ] at h;obtain⟨u,a,k2,rfl,rfl⟩:=h;rw[if_pos c,(QD k1 hk k2).1];exact⟨_,rfl,fun _=>rfl⟩
  rename_i cr;split at h
  ·rename_i c;simp only[xoB,xpX] at h;obtain⟨u,p1,k2,b,p2,k3,h⟩:=h;have s1:=(Xz hT B.lt k2).1;have s2:=WE hT s1.lt k3;rw[if_neg cr,if_pos c,(QD k1 hk k2).1];simp only[xbS,k3];split at h
   ·rename_i cb;cases h;rw[if_pos cb];exact⟨_,rfl,fun _=>rfl⟩
   ·rename_i cb;simp only[xoB,xoM,xpX,xpJ] at h;obtain⟨v,p3,k4,p4,k5,rfl,rfl⟩:=h;have C:=(B.next s1).next s2;have s3:=((Q4 hT A).st C k4).1;have s4:=(Zz hT s3.lt k5).1;obtain⟨v',g4,e4⟩:=VO he _ C _ _ k4;rw[if_neg cb];simp only[g4,xbS,k5,xmS];exact⟨_,rfl,fun z=>e4 (s4.e0 z)⟩
  ·rename_i cp;obtain⟨f1,rfl⟩:=DL k1 (by
    have a1:((1:Int)==t.kind)=false:=by simp;omega
    have a2:((2:Int)==t.kind)=false:=by simp;omega
    have a3:((3:Int)==t.kind)=false:=by simp;omega
    have a4:((4:Int)==t.kind)=false:=by simp;omega
    simp[List.find?_cons,a1,a2,a3,a4]) h
   rw[if_neg cr,if_neg cp,if_neg ct,if_neg cm,f1];exact⟨_,rfl,fun _=>rfl⟩
 ·rw[if_neg (JG c5),if_neg (JG c5),if_neg (JG c5),if_neg (JG c5)] at h;by_cases c1:t.kind=1
  ·rw[if_pos c1,Va k1 1 (by decide) (by rw[c1];rfl) (by omega) h];exact⟨_,rfl,fun _=>rfl⟩
  by_cases c2:t.kind=2
  ·rw[if_neg c1,if_pos c2,Va k1 2 (by decide) (by rw[c2];rfl) (by omega) h];exact⟨_,rfl,fun _=>rfl⟩
  by_cases c3:t.kind=3
  ·rw[if_neg c1,if_neg c2,if_pos c3,Va k1 4 (by decide) (by rw[c3];rfl) (by omega) h];exact⟨_,rfl,fun _=>rfl⟩
  by_cases c4:t.kind=4
  ·rw[if_neg c1,if_neg c2,if_neg c3,if_pos c4,Va k1 5 (by decide) (by rw[c4];rfl) (by omega) h];exact⟨_,rfl,fun _=>rfl⟩
  obtain⟨f1,rfl⟩:=DL k1 (by
   have a1:((1:Int)==t.kind)=false:=by simp;omega
   have a2:((2:Int)==t.kind)=false:=by simp;omega
   have a3:((3:Int)==t.kind)=false:=by simp;omega
   have a4:((4:Int)==t.kind)=false:=by simp;omega
   simp[List.find?_cons,a1,a2,a3,a4]) h
  rw[if_neg c1,if_neg c2,if_neg c3,if_neg c4,if_neg (JG c5),if_neg (JG c5),if_neg (JG c5),if_neg (JG c5),f1];exact⟨_,rfl,fun _=>rfl⟩
theorem Fw{s:Tx}(h:0<(qT s).1):s∈keysL∧((qT s).2=1∨(qT s).2=2):=by
 unfold qT at h ⊢;repeat' split at h
 all_goals first
  | (exfalso;revert h;decide)
  | (subst_vars;decide)
theorem dt(hK:TKS T){p:PS}{t:Tk}(h:zE T p=some t):(t.kind=6∧0<(qT t.text).1)↔0<(YW t).1:=by
 unfold YW;by_cases c:t.kind=6
 ·rw[if_pos (.inr c)];simp[c]
 ·by_cases c5:t.kind=5
  ·rw[if_pos (.inl c5)];have:=hK.sgn t (DX h (by omega)) c5;refine⟨fun x=>absurd x.1 c,fun x=>absurd (Fw x).1 this⟩
  ·rw[if_neg (by omega)];exact⟨fun x=>absurd x.1 c,fun x=>absurd x (by decide)⟩
theorem Gi(hT:TOK T){e pt g gp:PM Nd}(A:Tot T (m+1) e)(P:Tot T (m+1) pt)(he:Qg T m (Ys T e) g)(hp:Qg T m (Ys T pt) gp):∀ (n:Nat) (b:Bool) (nd nd':Nd) (p:PS),Bd T m p→(b=true→p.e=0→nd.kids.length≤4)→(p.e=0→nd'=nd)→Es (YM T e pt n b nd p) (Kr T g gp n b nd' p)
 | 0,b,nd,nd',p,B,hn,hz=>fun r q h=>by cases h
 | n+1,b,nd,nd',p,B,hn,hz=>fun r q h=>by
  unfold YM at h;unfold Kr;simp only[xoB] at h;obtain⟨t,k1,h⟩:=h;rw[k1];simp only[xbS];split at h;rotate_left
  ·rename_i c;cases h;rw[if_neg c];exact⟨_,rfl,hz⟩
  rename_i c;rw[if_pos c];have hk:t.kind≠0:=fun x=>by
   unfold qx isT at c;rw[x] at c;revert c;simp
  have e0:=Up k1 hk;obtain rfl:=hz e0;cases b with
  | true =>
   simp only[if_true,xoB,xpX] at h ⊢;obtain⟨p1,k2,x,p2,k3,h⟩:=h;have s1:=Yq B.lt k2;have s2:=((XF hT A P).st (B.next s1) k3).1;have hl:=hn rfl e0;by_cases c4:nd'.kids.length=4
   ·rw[KR (by omega)] at k2;have hne:=Ql k2 (by decide);have s3:=F2 hT A P n _ _ _ _ _ ((B.next s1).next s2) h;rw[if_pos c4,k2];obtain rfl:=(s2.trans s3).err hne;exact⟨_,rfl,fun z=>absurd z hne⟩
   ·obtain rfl:=UN (by omega) k2;obtain⟨x',g2,e2⟩:=V3 hT A P he hp _ B _ _ k3;rw[if_neg c4,g2];simp only[xbS];exact Gi hT A P he hp n true _ _ _ (B.next s2) (fun _ z=>Dc (by omega)) (fun z=>by rw[e2 z]) _ _ h
  | false =>
   simp only[Yd,if_false] at h ⊢;simp only[xoB,xpX] at h;obtain⟨x,p2,k3,h⟩:=h;have s2:=((XF hT A P).st B k3).1;obtain⟨x',g2,e2⟩:=V3 hT A P he hp _ B _ _ k3;rw[g2];simp only[xbS];exact Gi hT A P he hp n false _ _ _ (B.next s2) (fun hb=>by cases hb) (fun z=>by rw[e2 z]) _ _ h
theorem dc{e pt:PM Nd}{p q:PS}{x:Nd}{t:Tk}(hl:zE T p=some t)(h4:t.kind=4)(h:ZV T e pt p=some (x,q)):x.kids=[]:=by
 unfold ZV at h;rw[hl] at h;have c5:¬ (t.kind=5∨t.kind=6):=by omega
 simp only[xbS] at h;rw[if_neg (JG c5),if_neg (JG c5),if_neg (JG c5),if_neg (JG c5)] at h;exact BM h
theorem oS(hK:TKS T){e pt g gp:PM Nd}(A:Tot T (m+1) e)(P:Tot T (m+1) pt)(he:Qg T m (Ys T e) g)(hp:Qg T m (Ys T pt) gp):Qg T m (JD T e pt) (wm T g gp):=by
 have hT:=hK.tok;intro p B r q h;unfold JD at h;unfold wm;simp only[xoB] at h;obtain⟨t,k1,h⟩:=h;rw[k1];simp only[xbS];have hkr:=dt hK k1;by_cases c:t.kind=6∧0<(qT t.text).1
 ·rw[if_pos c] at h;rw[if_pos (hkr.1 c)];have hkk:YW t=qT t.text:=by unfold YW;rw[if_pos (.inr c.1)]
  rw[hkk];simp only[xoB,xpX] at h;obtain⟨u,p1,k2,h⟩:=h;obtain⟨g2,rfl⟩:=QD k1 (by omega) k2;have s1:=(Xz hT B.lt k2).1;rw[g2];simp only[xbS];rcases (Fw c.2).2 with h1 | h2
  ·rw[h1] at h ⊢;simp only[show (1:Int).toNat=0+1 from rfl,Xs,xoB,xpX] at h;obtain⟨x,p2,k3,h⟩:=h;cases h;obtain⟨x',g3,e3⟩:=V3 hT A P he hp _ (B.next s1) _ _ k3;rw[g3];simp only[xbS];rw[if_neg (by decide)];exact⟨_,rfl,fun z=>by rw[e3 z];rfl⟩
  ·rw[h2] at h ⊢;simp only[show (2:Int).toNat=0+1+1 from rfl,Xs,xoB,xpX] at h;obtain⟨x,p2,k3,y,p3,k4,h⟩:=h;cases h;have s2:=((XF hT A P).st (B.next s1) k3).1;have s3:=((XF hT A P).st ((B.next s1).next s2) k4).1;obtain⟨x',g3,e3⟩:=V3 hT A P he hp _ (B.next s1) _ _ k3;obtain⟨y',g4,e4⟩:=V3 hT A P he hp _ ((B.next s1).next s2) _ _ k4;rw[g3];simp only[xbS];simp only[if_true,g4,xmS];exact⟨_,rfl,fun z=>by rw[e3 (s3.e0 z),e4 z];rfl⟩
 ·rw[if_neg c] at h;rw[if_neg (fun x=>c (hkr.2 x))];simp only[xoB,xpX] at h;obtain⟨x,p1,k2,h⟩:=h;have s1:=((XF hT A P).st B k2).1;obtain⟨x',g2,e2⟩:=V3 hT A P he hp _ B _ _ k2;rw[g2];simp only[xbS];exact Gi hT A P he hp _ _ _ _ _ (B.next s1) (fun hb z=>by rw[dc k1 (by simpa using hb) k2];exact Nat.zero_le _) e2 _ _ h
theorem aF(hK:TKS T){p:PS}{t:Tk}(h:zE T p=some t){a b c:Tx}(ha:a ∉ keysL∧a≠[])(hb:b ∉ keysL∧b≠[])(hc:c ∉ keysL∧c≠[]):(K4 t a b c≠[]↔t.kind=5∧t.text∈[a,b,c])∧(t.kind=5∧t.text∈[a,b,c]→K4 t a b c=t.text):=by
 have key:t.kind=6→t.text∈keysL:=fun h6=>hK.key t (DX h (by omega)) h6;unfold K4 isT;by_cases h5:t.kind=5
 ·simp only[h5,BEq.rfl,Bool.true_or,Bool.true_and,beq_iff_eq,List.mem_cons,List.not_mem_nil,or_false,true_and];by_cases c1:t.text=a
  ·simp[c1,ha.2]
  by_cases c2:t.text=b
  ·simp[c1,c2,hb.2];split <;> simp_all
  by_cases c3:t.text=c
  ·simp[c1,c2,c3,hc.2];split <;> (try split) <;> simp_all
  ·simp[c1,c2,c3]
 ·by_cases h6:t.kind=6
  ·have hk:=key h6;have n1:(t.text==a)=false:=by simp;rintro rfl;exact ha.1 hk
   have n2:(t.text==b)=false:=by simp;rintro rfl;exact hb.1 hk
   have n3:(t.text==c)=false:=by simp;rintro rfl;exact hc.1 hk
   simp[n1,n2,n3,h5]
  ·have q5:(t.kind==5)=false:=by simp[h5]
   have q6:(t.kind==6)=false:=by simp[h6]
   simp[q5,q6,h5]
theorem BH(hK:TKS T){f g:PM Nd}(A:Tot T m f)(hf:Qg T m f g){a b c:Tx}(ha:a ∉ keysL∧a≠[])(hb:b ∉ keysL∧b≠[])(hc:c ∉ keysL∧c≠[]):∀ (n:Nat) (t:Tk) (nd nd':Nd) (p:PS),Bd T m p→zE T p=some t→(p.e=0→nd'=nd)→Es (J0 T f [a,b,c] n t nd p) (Wz T g a b c n nd' p)
 | 0,t,nd,nd',p,B,hl,hn=>fun r q h=>by cases h
 | n+1,t,nd,nd',p,B,hl,hn=>fun r q h=>by
  have ho:=aF hK hl ha hb hc;unfold J0 at h;unfold Wz;rw[hl];simp only[xbS];by_cases cc:t.kind=5∧t.text∈[a,b,c]
  ·rw[if_pos cc] at h;rw[if_pos (ho.1.2 cc),ho.2 cc];simp only[xoB,xpX] at h;obtain⟨u,p1,k1,x,p2,k2,t',k3,h⟩:=h;obtain⟨g1,rfl⟩:=QD hl (by omega) k1;have s1:=(Xz hK.tok B.lt k1).1;have s2:=(A.st (B.next s1) k2).1;obtain⟨x',g2,e2⟩:=hf _ (B.next s1) _ _ k2;obtain rfl:=hn (Up hl (by omega));rw[g1];simp only[xbS,g2];exact BH hK A hf ha hb hc n t' _ _ p2 ((B.next s1).next s2) k3 (fun z=>by rw[e2 z]) _ _ h
  ·rw[if_neg cc] at h;rw[if_neg (fun x=>cc (ho.1.1 x))];cases h;exact⟨_,rfl,hn⟩
theorem wd(hK:TKS T){f g:PM Nd}(A:Tot T m f)(hf:Qg T m f g){a b c:Tx}(ha:a ∉ keysL∧a≠[])(hb:b ∉ keysL∧b≠[])(hc:c ∉ keysL∧c≠[]):Qg T m (J1 T f [a,b,c]) (EU T g a b c):=by
 intro p B r q h;unfold J1 at h;unfold EU;simp only[xoB,xpX] at h;obtain⟨x,p1,k1,t,k2,h⟩:=h;obtain⟨x',g1,e1⟩:=hf _ B _ _ k1;rw[g1];simp only[xbS];exact BH hK A hf ha hb hc _ t _ _ p1 (B.next (A.st B k1).1) k2 e1 _ _ h
theorem u1(hK:TKS T){e pt g gp:PM Nd}(A:Tot T (m+1) e)(P:Tot T (m+1) pt)(he:Qg T m (Ys T e) g)(hp:Qg T m (Ys T pt) gp):Qg T m (E4 T e pt) (oa T g gp) :=
 wd hK (GJ hK.tok (F1 hK.tok A P)) (wd hK (F1 hK.tok A P) (oS hK A P he hp) (by decide) (by decide) (by decide)) (by decide) (by decide) (by decide)
theorem tt(hK:TKS T){e pt g gp:PM Nd}(A:Tot T (m+1) e)(P:Tot T (m+1) pt)(he:Qg T m (Ys T e) g)(hp:Qg T m (Ys T pt) gp):Qg T m (W7 T e pt) (GL T g gp):=by
 have hT:=hK.tok;intro p B r q h;unfold W7 at h;unfold GL;simp only[xoB,xpX] at h;obtain⟨x,p1,k1,t,k2,h⟩:=h;obtain⟨x',g1,e1⟩:=u1 hK A P he hp _ B _ _ k1;have s1:=((Dl hT A P).st B k1).1;rw[g1];simp only[xbS,k2];have ho:(isT t [61]=true∨isT t [60]=true↔K4 t [61] [60] [61]≠[])∧(isT t [61]=true∨isT t [60]=true→K4 t [61] [60] [61]=t.text):=by
  unfold K4;by_cases c1:isT t [61]=true
  ·rw[if_pos c1];exact⟨⟨fun _=>by decide,fun _ =>.inl c1⟩,fun _=>(Qm.1 c1).2.symm⟩
  ·rw[if_neg c1];by_cases c2:isT t [60]=true
   ·rw[if_pos c2];exact⟨⟨fun _=>by decide,fun _ =>.inr c2⟩,fun _=>(Qm.1 c2).2.symm⟩
   ·rw[if_neg c2,if_neg c1];exact⟨⟨fun x=>absurd x (by simp[c1,c2]),fun x=>absurd rfl x⟩,fun x=>absurd x (by simp[c1,c2])⟩
 by_cases c:isT t [61]=true∨isT t [60]=true
 ·rw[if_pos c] at h;rw[if_pos (ho.1.1 c),ho.2 c];simp only[xoB,xoM,xpX,xpJ] at h;obtain⟨u,p2,k3,y,p3,k4,rfl,rfl⟩:=h;have hk:t.kind≠0:=c.elim Yj Yj;have s2:=(Xz hT s1.lt k3).1;have B2:=(B.next s1).next s2;have s3:=((Dl hT A P).st B2 k4).1;obtain⟨y',g4,e4⟩:=u1 hK A P he hp _ B2 _ _ k4;rw[(QD k2 hk k3).1];simp only[xbS,g4,xmS];exact⟨_,rfl,fun z=>by rw[e4 z,e1 (s2.e0 (s3.e0 z))]⟩
 ·rw[if_neg c] at h;rw[if_neg (fun x=>c (ho.1.2 x))];cases h;exact⟨_,rfl,e1⟩
theorem Fq(hT:TOK T){e g:PM Nd}(A:Tot T (m+1) e)(he:Qg T m (Ys T e) g){p q:PS}{x:Tx}{rc:Bool}{v:Nd}(B:Bd T m p)(h:Xh T e p=some ((x,rc,v),q)):∃ v',VG T g p=some ((x,rc,v'),q)∧(q.e=0→v'=v):=by
 obtain⟨p1,t,p2,p3,p4,k1,k2,rfl,k3,k4,k5⟩:=Fk h;have s1:=WE hT B.lt k1;obtain⟨s2,_⟩:=Wx hT s1.lt (by decide) k2;have s3:=(Zz hT s2.lt k3).1;have s4:=cF s3.lt k4;have C:=(((B.next s1).next s2).next s3).next s4;obtain⟨v',g5,e5⟩:=he _ C _ _ k5;obtain⟨f,kf,_⟩:=K5 (T:=T) s3.lt [102,117,110];have hrec:(if rc=true∧¬ f=true∧p3.deep<40 then Zh T 14 p3 else some p3)=some p4:=by
  by_cases c1:rc=true∧p3.deep<40
  ·rw[if_pos c1,kf] at k4;simp only[xbS] at k4;cases f with
   | true=>rw[if_neg (by simp)];simpa using k4
   | false=>rw[if_pos ⟨c1.1,by simp,c1.2⟩];simpa using k4
  ·rw[if_neg c1] at k4;rw[if_neg (fun x=>c1 ⟨x.1,x.2.2⟩)];exact k4
 unfold VG J3;rw[k1];simp only[xbS,k2,xmS,k3,kf];rw[hrec];simp only[xbS,g5,xmS];exact⟨_,rfl,e5⟩
theorem NV(hK:TKS T){p:PS}{t:Tk}(h:zE T p=some t){s:Tx}(hs:s∈keysL):(t.kind=6∧t.text=s)↔isT t s=true:=by
 rw[Qm];refine⟨fun x=>⟨.inr x.1,x.2⟩,fun x=>?_⟩;rcases x.1 with h5 | h6
 ·exact absurd (x.2▸hs) (hK.sgn t (DX h (by omega)) h5)
 ·exact⟨h6,x.2⟩
theorem xO(hK:TKS T){e pt g gp:PM Nd}(A:Tot T (m+1) e)(P:Tot T (m+1) pt)(he:Qg T m (Ys T e) g)(hp:Qg T m (Ys T pt) gp):Qg T m (J9 T e pt) (D3 T g gp):=by
 have hT:=hK.tok;intro p B r q h;unfold J9 at h;unfold D3;simp only[xoB] at h;obtain⟨t,k0,h⟩:=h;rw[k0];simp only[xbS];have i1:=NV hK k0 (s:=[108,101,116]) (by decide);have i2:=NV hK k0 (s:=[102,117,110]) (by decide);have i3:=NV hK k0 (s:=[105,102]) (by decide);by_cases c1:t.kind=6∧t.text=[108,101,116]
 ·rw[if_pos c1] at h;rw[if_pos (i1.1 c1)];unfold Bg at h;simp only[xoB,xoM,xpX,xpJ] at h;obtain⟨u,p1,k1,x,rc,v,p2,k2,p3,k3,w,p4,k4,rfl,rfl⟩:=h;obtain⟨g1,rfl⟩:=QD k0 (by omega) k1;have s1:=(Xz hT B.lt k1).1;have s2:=(wD hT A (B.next s1) k2).1;have s3:=(Zz hT s2.lt k3).1;have C:=((B.next s1).next s2).next s3;have s4:=((Qh hT A).st C k4).1;obtain⟨v',g2,e2⟩:=Fq hT A he (B.next s1) k2;obtain⟨w',g4,e4⟩:=he _ C _ _ k4;rw[g1];simp only[xbS,g2,k3,g4,xmS];exact⟨_,rfl,fun z=>by rw[e4 z,e2 (s3.e0 (s4.e0 z))]⟩
 rw[if_neg c1] at h;rw[if_neg (fun x=>c1 (i1.2 x))];by_cases c2:t.kind=6∧t.text=[102,117,110]
 ·rw[if_pos c2] at h;rw[if_pos (i2.1 c2)];unfold Ll at h;simp only[xoB,xoM,xpX,xpJ] at h;obtain⟨u,p1,k1,x,p2,k2,p3,k3,w,p4,k4,rfl,rfl⟩:=h;obtain⟨g1,rfl⟩:=QD k0 (by omega) k1;have s1:=(Xz hT B.lt k1).1;have s2:=(Wx hT s1.lt (by decide) k2).1;have s3:=(Zz hT s2.lt k3).1;have C:=((B.next s1).next s2).next s3;obtain⟨w',g4,e4⟩:=he _ C _ _ k4;unfold J3;rw[g1];simp only[xbS,k2,k3,g4,xmS];exact⟨_,rfl,fun z=>by rw[e4 z]⟩
 rw[if_neg c2] at h;rw[if_neg (fun x=>c2 (i2.2 x))];by_cases c3:t.kind=6∧t.text=[105,102]
 ·rw[if_pos c3] at h;rw[if_pos (i3.1 c3)];unfold JV at h;simp only[xoB,xoM,xpX,xpJ] at h;obtain⟨u,p1,k1,x,p2,k2,p3,k3,y,p4,k4,p5,k5,w,p6,k6,rfl,rfl⟩:=h;obtain⟨g1,rfl⟩:=QD k0 (by omega) k1;have s1:=(Xz hT B.lt k1).1;have s2:=((Qh hT A).st (B.next s1) k2).1;have s3:=(Zz hT s2.lt k3).1;have C:=((B.next s1).next s2).next s3;have s4:=((Qh hT A).st C k4).1;have s5:=(Zz hT s4.lt k5).1;have D:=(C.next s4).next s5;have s6:=((Qh hT A).st D k6).1;obtain⟨x',g2,e2⟩:=he _ (B.next s1) _ _ k2;obtain⟨y',g4,e4⟩:=he _ C _ _ k4;obtain⟨w',g6,e6⟩:=he _ D _ _ k6;rw[g1];simp only[xbS,g2,k3,g4,k5,g6,xmS];exact⟨_,rfl,fun z=>by
   have z4:=s5.e0 (s6.e0 z);rw[e6 z,e4 z4,e2 (s3.e0 (s4.e0 z4))]⟩
 rw[if_neg c3] at h;rw[if_neg (fun x=>c3 (i3.2 x))];simp only[xoB,xpX] at h;obtain⟨x,p1,k1,b,p2,k2,h⟩:=h;have s1:=((yk hT A P).st B k1).1;obtain⟨x',g1,e1⟩:=tt hK A P he hp _ B _ _ k1;rw[g1];simp only[xbS];by_cases cf:p1.flat=true
 ·rw[if_pos cf] at k2;cases k2;obtain⟨b,kb,_⟩:=K5 (T:=T) s1.lt [59];rw[kb];simp only[xbS];rw[if_neg (by simp[cf])];cases h;exact⟨_,rfl,e1⟩
 ·rw[if_neg cf] at k2;obtain⟨_,_,_,g2,g3,g4⟩:=WF k2;rw[g2];simp only[xbS];have s2:=WE hT s1.lt k2;cases b with
  | true =>
   simp only[if_true,xoM,xpX,xpJ] at h;obtain⟨w,p3,k3,rfl,rfl⟩:=h;have C:=(B.next s1).next s2;have s3:=((Qh hT A).st C k3).1;obtain⟨w',g5,e5⟩:=he _ C _ _ k3;rw[if_pos ⟨rfl,cf⟩,(g3 rfl).1];simp only[xbS,g5,xmS];exact⟨_,rfl,fun z=>by rw[e5 z,e1 (s2.e0 (s3.e0 z))]⟩
  | false =>
   obtain rfl:=g4 rfl;rw[if_neg (by simp)];cases h;exact⟨_,rfl,e1⟩
theorem L3(hK:TKS T):∀ (n m:Nat),42≤m+n→Qg T m (Ys T (Z7 T n)) (YT T (oz T n))
 | 0,m,h=>VV D6
 | n+1,m,h=>VV (xO hK (UJ hK.tok n (m+2) (by omega)) (Hq hK.tok (n+1) (m+2) (by omega)) (L3 hK n (m+1) (by omega)) (L6 hK.tok (n+1) (m+1) (by omega)))
theorem n6(hT:TOK T){e ty g gt:PM Nd}(A:Tot T (m+1) e)(Y:Tot T (m+1) ty)(he:Qg T m (Ys T e) g)(hy:Qg T m (Ys T ty) gt){p:PS}(B:Bd T m p){t:Tk}(hl:zE T p=some t)(hk:t.kind≠0):Es (Jy T e ty p) (jE T g gt p):=by
 intro r q h;unfold Jy at h;unfold jE;simp only[xoB,xoM,xpX,xpJ] at h;obtain⟨b,kb,x,p1,h,p2,k2,rfl,rfl⟩:=h;rw[kb];simp only[xbS];cases b with
 | true =>
  simp only[if_true] at h;unfold Q9 at h;simp only[xoB,xpX] at h;obtain⟨u,a1,j1,w,a2,j2,n,a3,j3,a4,j4,h⟩:=h;obtain⟨g1,rfl⟩:=QD hl hk j1;have s1:=(Xz hT B.lt j1).1;have s2:=(Wx hT s1.lt (by decide) j2).1;have C:=(B.next s1).next s2;have s3:=HJ hT _ _ _ _ _ C j3;have s4:=(Zz hT s3.lt j4).1;have D:=(C.next s3).next s4;have s5:=jW hT Y _ _ _ _ _ _ D h;have s6:=(Zz hT s5.lt k2).1;have hkid:n.kids=[]:=by
   have:∀ (k:Nat) (nd:Nd) (p:PS) (r:Nd) (q:PS),nd.kids=[]→QF T k nd p=some (r,q)→r.kids=[]:=by
    intro k;induction k with
    | zero=>intro nd p r q _ h;cases h
    | succ k ih =>
     intro nd p r q hn h;unfold QF at h;simp only[xoB] at h;obtain⟨t,_,h⟩:=h;split at h
     ·simp only[xoB,xpX] at h;obtain⟨_,_,u,_,_,h⟩:=h;exact ih _ _ _ _ (by rw[UR];exact hn) h
     ·cases h;exact hn
   exact this _ _ _ _ _ rfl j3
  obtain⟨n',g3,e3⟩:=DH hT _ _ (zr 25 u.pos w.text []) a2 C (fun _=>⟨rfl,by simp[zr,Nd.names]⟩) _ _ j3;obtain⟨x',g5,e5⟩:=BU hT Y hy _ true _ n' a4 D (fun z=>⟨e3 (s4.e0 z),by rw[hkid];simp⟩) _ _ h;unfold u6 J3;rw[g1];simp only[xbS,if_true,j2,xmS,g3,j4,g5,k2];exact⟨_,rfl,fun z=>e5 (s6.e0 z)⟩
 | false =>
  simp only[Yd,if_false,xoB,xoM,xpX,xpJ] at h;obtain⟨u,a1,j1,y,rc,v,a2,j2,rfl,rfl⟩:=h;obtain⟨g1,rfl⟩:=QD hl hk j1;have s1:=(Xz hT B.lt j1).1;have C:=xj (B.next s1) true;have s2:=(wD hT A C j2).1;have s3:=(Zz hT (p:={ a2 with flat:=false }) s2.lt k2).1;obtain⟨v',g2,e2⟩:=Fq hT A he C j2;rw[g1];simp only[xbS,Yd,if_false,g2,xmS,k2];exact⟨_,rfl,fun z=>by rw[e2 (s3.e0 z)]⟩
theorem B7(hT:TOK T){e ty g gt:PM Nd}(A:Tot T (m+1) e)(Y:Tot T (m+1) ty)(he:Qg T m (Ys T e) g)(hy:Qg T m (Ys T ty) gt):∀ (n:Nat) (nd nd':Nd) (p:PS),Bd T m p→p.flat=false→(p.e=0→nd'=nd∧nd.kids.length≤60)→Es (Y' T e ty n nd p) (H4 T g gt n nd' p)
 | 0,nd,nd',p,B,hf,hn=>fun r q h=>by cases h
 | n+1,nd,nd',p,B,hf,hn=>fun r q h=>by
  obtain⟨a,b,k1,k2,h⟩:=B8 h;obtain⟨t,hl,ra⟩:=Dy k1;unfold H4;rw[hl];simp only[xbS];have hb:(isT t [116,121,112,101]=true∨isT t [108,101,116]=true)↔b=true:=by
   rw[←ra];cases a with
   | true=>simp only[if_true,xsJ] at k2;subst k2;simp
   | false =>
    simp only[Yd,if_false] at k2;obtain⟨t',hl',rb⟩:=Dy k2;rw[hl] at hl';cases hl';rw[←rb];simp
  rcases h with⟨rfl,rfl,rfl⟩ | ⟨rfl,p1,x,p2,k3,k4,h'⟩
  ·rw[if_neg (fun x=>absurd (hb.1 x) (by decide))];exact⟨_,rfl,fun z=>(hn z).1⟩
  ·have hor:=hb.2 rfl;have hk:t.kind≠0:=hor.elim Yj Yj;obtain⟨rfl,hlen⟩:=hn (Up hl hk);rw[if_pos hor];have s1:=Yq B.lt k3;have s2:=fU hT A Y (B.next s1) (s1.flat.trans hf) k4;by_cases c:nd'.kids.length=60
   ·rw[KR (by omega)] at k3;have hne:=Ql k3 (by decide);obtain⟨nd2,q2,y1,y2,y3⟩:=U2 hT A Y (a:=0) n (nd'.addKid x) p2 s2.lt ((B.next s1).next s2).lo ((B.next s1).next s2).hi (s2.flat.trans (s1.flat.trans hf)) ⟨by
     cases n with
     | zero=>cases h'
     | succ n=>omega,fun z=>absurd (s2.e0 z) hne⟩ (fun z=>absurd (s2.e0 z) hne)
    rw[y1] at h';cases h';rw[if_pos c,k3];obtain rfl:=(s2.trans y2).err hne;exact⟨_,rfl,fun z=>absurd z hne⟩
   ·obtain rfl:=UN (by omega) k3;obtain⟨x',g2,e2⟩:=n6 hT A Y he hy B hl hk _ _ k4;rw[if_neg c,g2];simp only[xbS];exact B7 hT A Y he hy n _ _ _ (B.next s2) (s2.flat.trans hf) (fun z=>⟨by rw[e2 z],Dc (by omega)⟩) _ _ h'
theorem gV(hK:TKS T){n:Nd}{b e:Int}(h:Jm T=some (n,b,e)):Db T=some (n,b,e):=by
 have hT:=hK.tok;unfold Jm at h;simp only[xoM,xpX] at h;obtain⟨r,q,h,hr⟩:=h;unfold KE at h;simp only[xoB,xoM,xpX,xpJ] at h;obtain⟨t,k1,x,p1,k2,p2,k3,u,p3,k4,t',k5,p4,k6,rfl,rfl⟩:=h;have B:Bd T 0 ⟨0,0,false,0,0⟩:=⟨hT.pos,Nat.le_refl _,Nat.zero_le _⟩;have A:=UJ hT 42 1 (by omega);have Y:=Dk hT 42 1 (by omega);have he:=L3 hK 42 0 (by omega);have hy:=yv hT 42 0 (by omega);obtain⟨x',g2,e2⟩:=B7 hT A Y he hy _ _ (zr 30 t.pos [] []) _ B rfl (fun _=>⟨rfl,by simp[zr,Nd.kids]⟩) _ _ k2;have s2:Step T ⟨0,0,false,0,0⟩ p1:=by
  obtain⟨nd2,q2,y1,y2,y3⟩:=U2 hT A Y (a:=EJ T 0) (T.length+2) (zr 30 t.pos [] []) ⟨0,0,false,0,0⟩ B.lt B.lo B.hi rfl (UI (p:=⟨0,0,false,0,0⟩)) (fun _=>by
   have hg:T[0]?=some t:=by unfold zE at k1;rw[if_pos rfl] at k1;exact k1
   have hp:=Qf (p:=⟨0,0,false,0,0⟩) hg;exact⟨FX ⟨t,hp.2,rfl⟩ (fun c hc=>by cases hc) (by simp),by rw[←hp.1];exact Int.le_refl _,by rw[←hp.1];exact Int.le_refl _,by simp[zr,Nd.kids],by simp[zr,Nd.names]⟩)
  rw[k2] at y1;cases y1;exact y2
 have s3:=(Zz hT s2.lt k3).1;have C:=(B.next s2).next s3;have s4:=((Qh hT A).st C k4).1;obtain⟨u',g4,e4⟩:=he _ C _ _ k4;have s6:Step T p3 p4:=by
  split at k6
  ·exact LG s4.lt k6
  ·cases k6;exact .refl s4.lt
 unfold Db uJ bU;rw[k1];simp only[xmS,xbS,g2,k3,g4,k5,k6];by_cases z:p4.e=0
 ·rw[if_pos z] at hr ⊢;have z3:=s6.e0 z;rw[e4 z3,e2 (s3.e0 (s4.e0 z3)),hr]
 ·rw[if_neg z] at hr ⊢;rw[hr]
end Go.AL
namespace Go.AL
theorem mI:∀ c∈signsL,[c] ∉ keysL:=by decide
theorem fD{w:Tx}{p:Int}{t:Tk}{n:Nat}(h:XE w p = .ok (t,n)):(t.kind=6→t.text∈keysL)∧(t.kind=5→t.text ∉ keysL):=by
 unfold XE at h;split at h
 ·cases h
 rename_i c r;split at h
 ·split at h
  ·cases h
  ·cases h;exact⟨fun x=>by simp at x,fun x=>by simp at x⟩
 split at h
 ·split at h
  ·cases h
  ·cases h;exact⟨fun x=>by simp at x,fun x=>by simp at x⟩
 split at h
 ·split at h
  ·cases h
  ·cases h;refine⟨fun x=>?_,fun x=>?_⟩
   ·dsimp only at x ⊢;split at x
    ·omega
    ·split at x
     ·assumption
     ·omega
   ·dsimp only at x;split at x
    ·omega
    ·split at x <;> omega
 split at h
 ·rename_i hs;split at h
  ·cases h;exact⟨fun x=>by simp at x,fun _=>by show ([45,62]:Tx) ∉ keysL;decide⟩
  ·cases h;exact⟨fun x=>by simp at x,fun _=>mI c hs⟩
 ·cases h
theorem lZ{s:Tx}{k:Nat}{T:List Tk}(h:Lx s k T):TKS T:=by
 have key:∀ t∈T,(t.kind=6→t.text∈keysL)∧(t.kind=5→t.text ∉ keysL):=by
  induction h with
  | nil=>intro t ht;simp only[List.mem_singleton] at ht;subst ht;exact⟨fun x=>by simp at x,fun x=>by simp at x⟩
  | cons h1 h2 _ ih =>
   intro t ht;rcases List.mem_cons.1 ht with rfl | ht
   ·exact fD h2
   ·exact ih t ht
 exact⟨(pG h).1,fun t ht=>(key t ht).1,fun t ht=>(key t ht).2⟩
theorem Ex(n c:Nd):(n.addKid c).kind=n.kind:=by cases n;rfl
theorem DV{T:List Tk}{e ty:PM Nd}:∀ (n:Nat) (nd r:Nd) (p q:PS),Y' T e ty n nd p=some (r,q)→r.kind=nd.kind
 | 0,nd,r,p,q,h=>by cases h
 | n+1,nd,r,p,q,h=>by
  obtain⟨a,b,_,_,h⟩:=B8 h;rcases h with⟨_,rfl,_⟩ | ⟨_,p1,c,p2,_,_,h⟩
  ·rfl
  ·rw[DV n _ _ _ _ h,Ex]
theorem LU{s:Tx}{n:Nd}{a e:Int}(h:qC s=some (n,a,e)):(e=0→n.kind=30)∧(e≠0→n=VQ):=by
 unfold qC at h;cases hl:YY s with
 | error x =>
  obtain⟨b,f⟩:=x;rw[hl] at h;cases h;exact⟨fun z=>absurd z (UE hl),fun _=>rfl⟩
 | ok T =>
  rw[hl] at h;dsimp only at h;unfold Jm at h;simp only[xoM,xpX] at h;obtain⟨r,q,h,hr⟩:=h;unfold KE at h;simp only[xoB,xoM,xpX,xpJ] at h;obtain⟨t,k1,x,p1,k2,p2,k3,u,p3,k4,t',k5,p4,k6,rfl,rfl⟩:=h;by_cases z:p4.e=0
  ·rw[if_pos z] at hr;cases hr;exact⟨fun _=>by rw[Ex,DV _ _ _ _ _ k2];rfl,fun x=>absurd rfl x⟩
  ·rw[if_neg z] at hr;cases hr;exact⟨fun x=>absurd x z,fun _=>rfl⟩
theorem jY{s:Tx}{n:Nd}{a e:Int}(h:qC s=some (n,a,e)):(∃ b,YY s = .error (b,e)∧a=b∧n=VQ∧e≠0)∨∃ T,YY s = .ok T∧T.length≤2001∧Db T=some (n,a,e):=by
 unfold qC at h;cases hl:YY s with
 | error x =>
  obtain⟨b,f⟩:=x;rw[hl] at h;cases h;exact .inl ⟨b,rfl,rfl,rfl,UE hl⟩
 | ok T =>
  rw[hl] at h;exact .inr ⟨T,rfl,D' hl,gV (lZ (Dg hl).1) h⟩
end Go.AL
