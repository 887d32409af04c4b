/- The parser ends, whatever the tokens; each node stands at a token, none ahead of the node that it is in. -/
import Derived.Test.YtkokccjfpebomaaGreatDoorM5
set_option linter.unusedSimpArgs false
set_option linter.unusedVariables false
namespace Go.AL
structure TOK (T:List Tk):Prop where
 pos:0<T.length
 last:∀ (i:Nat) (t:Tk),T[i]?=some t→t.kind≠0→i+1<T.length
 sorted:∀ (i j:Nat) (a b:Tk),i≤j→T[i]?=some a→T[j]?=some b→a.pos≤b.pos
def H6 (T:List Tk) (i:Nat):Int:=(T.getD i xB).pos
inductive Pl (T:List Tk):Nd→Prop where
 | mk (n:Nd) (h:∃ t∈T,t.pos=n.pos) (h1:∀ c∈n.kids,Pl T c) (h2:∀ c∈n.kids,n.pos≤c.pos) (h3:n.kids.length≤T.length+3) (h4:n.names.length≤T.length+3):Pl T n
structure Step (T:List Tk) (p q:PS):Prop where
 deep:q.deep=p.deep
 flat:q.flat=p.flat
 le:p.pos≤q.pos
 lt:q.pos<T.length
 err:p.e≠0→q=p
def Strict (p q:PS):Prop:=p.e=0→q.e=0→p.pos<q.pos
def NdInv (T:List Tk) (a:Int) (nd:Nd) (p:PS):Prop:=p.e=0→Pl T nd∧a≤nd.pos∧nd.pos≤H6 T p.pos∧nd.kids.length≤p.pos+3∧nd.names.length≤p.pos+3
def iS (T:List Tk) (p:PS) (x:Option (Nd×PS)):Prop:=∃ nd q,x=some (nd,q)∧Step T p q∧Strict p q∧NdInv T (H6 T p.pos) nd q
def Tot (T:List Tk) (m:Nat) (e:PM Nd):Prop:=∀ p:PS,p.pos<T.length→m≤p.deep→p.deep≤40→iS T p (e p)
def Fuel (T:List Tk) (n:Nat) (p:PS):Prop:=1≤n∧(p.e=0→T.length+1≤p.pos+n)
variable {T:List Tk}
theorem Step.refl {p:PS} (h:p.pos<T.length):Step T p p:=⟨rfl,rfl,Nat.le_refl _,h,fun _=>rfl⟩
theorem Step.trans {p q r:PS} (a:Step T p q) (b:Step T q r):Step T p r :=
 ⟨b.deep.trans a.deep,b.flat.trans a.flat,Nat.le_trans a.le b.le,b.lt,fun h=>by have:=a.err h;subst this;exact b.err h⟩
theorem Step.e0 {p q:PS} (a:Step T p q) (h:q.e=0):p.e=0:=by
 by_cases c:p.e=0
 ·exact c
 ·have:=a.err c;subst this;exact h
theorem Strict.l {p q r:PS} (x:Strict p q) (b:Step T q r):Strict p r:=fun h1 h2=>Nat.lt_of_lt_of_le (x h1 (b.e0 h2)) b.le
theorem Strict.r {p q r:PS} (a:Step T p q) (b:Step T q r) (x:Strict q r):Strict p r:=fun h1 h2=>Nat.lt_of_le_of_lt a.le (x (b.e0 h2) h2)
theorem Ho (hT:TOK T) {i j:Nat} (h:i≤j) (hj:j<T.length):H6 T i≤H6 T j:=by
 have hi:i<T.length:=by omega
 have:=hT.sorted i j T[i] T[j] h (by simp[hi]) (by simp[hj])
 simpa[H6,List.getD_eq_getElem?_getD,hi,hj] using this
theorem Zb {p:PS} (hp:p.pos<T.length):∃ t,zR T p=some t∧(p.e=0→T[p.pos]?=some t)∧(p.e≠0→t=xB):=by
 unfold zR
 by_cases h:p.e=0
 ·exact⟨T[p.pos],by simp[h,hp],fun _=>by simp[hp],fun x=>absurd h x⟩
 ·exact⟨xB,by simp[h],fun x=>absurd x h,fun _=>rfl⟩
theorem Qf {p:PS} {t:Tk} (h:T[p.pos]?=some t):t.pos=H6 T p.pos∧t∈T:=by
 obtain⟨h1,h2⟩:=List.getElem?_eq_some_iff.1 h
 subst h2
 exact⟨by simp[H6,List.getD_eq_getElem?_getD,h1],List.getElem_mem h1⟩
theorem QF (hT:TOK T) {p:PS} (hp:p.pos<T.length) {t:Tk} (ht:zR T p=some t) :
  ∃ q,ZM T p=some (t,q)∧Step T p q∧q.e=p.e∧(t.kind≠0→p.e=0∧q.pos=p.pos+1)∧(t.kind=0→q=p):=by
 obtain⟨t',h1,h2,h3⟩:=Zb hp
 obtain rfl:t'=t:=by rw[h1] at ht;exact Option.some.inj ht
 unfold ZM;rw[h1];simp only[Option.map_some]
 by_cases he:p.e=0
 ·by_cases hk:t'.kind≠0
  ·exact⟨{ p with pos:=p.pos+1 },by simp[he,hk],⟨rfl,rfl,by simp,hT.last _ _ (h2 he) hk,fun x=>absurd he x⟩,rfl,fun _=>⟨he,rfl⟩,fun x=>absurd x hk⟩
  ·have hk:=Classical.not_not.1 hk
   exact⟨p,by simp[hk],.refl hp,rfl,fun x=>absurd hk x,fun _=>rfl⟩
 ·have hk:t'.kind=0:=by rw[h3 he];rfl
  exact⟨p,by simp[hk],.refl hp,rfl,fun x=>absurd hk x,fun _=>rfl⟩
theorem QV {t:Tk} {s:Tx} (h:isT t s=true):t.kind≠0:=by
 unfold isT at h
 simp only[Bool.and_eq_true,Bool.or_eq_true,beq_iff_eq] at h
 omega
theorem KE {p:PS} (hp:p.pos<T.length) (s:Tx):∃ b,Jn T s p=some b∧(b=true→p.e=0):=by
 obtain⟨t,h1,h2,h3⟩:=Zb hp
 refine⟨isT t s,by unfold Jn;rw[h1];rfl,fun hb=>?_⟩
 by_cases he:p.e=0
 ·exact he
 ·exact absurd (by rw[h3 he];rfl) (QV hb)
theorem Vr (hT:TOK T) {p:PS} (hp:p.pos<T.length) (s:Tx):∃ b q,Xx T s p=some (b,q)∧Step T p q∧q.e=p.e∧(b=true→p.e=0∧q.pos=p.pos+1)∧(b=false→q=p):=by
 obtain⟨t,h1,h2,h3⟩:=Zb hp
 obtain⟨q,h4,h5,h6,h7,h8⟩:=QF hT hp h1
 unfold Xx Jn
 rw[h1];simp only[Option.map_some,Option.bind_some]
 cases hb:isT t s with
 | true=>exact⟨true,q,by simp[h4],h5,h6,fun _=>h7 (QV hb),fun x=>by cases x⟩
 | false=>exact⟨false,p,by simp,.refl hp,rfl,fun x=>(by cases x),fun _=>rfl⟩
theorem Wb {p:PS} (hp:p.pos<T.length) {e:Int} (he:e≠0):∃ q,Za T e p=some q∧Step T p q∧q.e≠0:=by
 unfold Za
 by_cases h:p.e=0
 ·refine⟨{ p with bad:=T[p.pos].pos,e:=e },by simp[h,hp],⟨rfl,rfl,Nat.le_refl _,hp,fun x=>absurd h x⟩,he⟩
 ·exact⟨p,by simp[h],.refl hp,h⟩
theorem Qj (hT:TOK T) {p:PS} (hp:p.pos<T.length) (s:Tx):∃ q,qJ T s p=some q∧Step T p q∧Strict p q:=by
 obtain⟨b,q,h1,h2,h3,h4,h5⟩:=Vr hT hp s
 unfold qJ;rw[h1];simp only[Option.bind_some]
 cases b with
 | true=>exact⟨q,by simp,h2,fun _ _=>by have:=(h4 rfl).2;omega⟩
 | false =>
  obtain⟨r,h6,h7,h8⟩:=Wb (T:=T) h2.lt (e:=14) (by decide)
  exact⟨r,by simp[h6],h2.trans h7,fun _ h=>absurd h h8⟩
theorem VY (hT:TOK T) {p:PS} (hp:p.pos<T.length) {k:Int} (hk:k≠0):∃ t q,XV T k p=some (t,q)∧Step T p q∧Strict p q∧(q.e=0→t.pos=H6 T p.pos∧t∈T∧t.kind=k):=by
 obtain⟨t,h1,h2,h3⟩:=Zb hp
 unfold XV;rw[h1];simp only[Option.bind_some]
 by_cases h:t.kind=k
 ·obtain⟨q,h4,h5,h6,h7,h8⟩:=QF hT hp h1
  exact⟨t,q,by simp[h,h4],h5,fun _ _=>by have:=(h7 (by omega)).2;omega,fun x=>by
   have:=Qf (h2 (h5.e0 x));exact⟨this.1,this.2,h⟩⟩
 ·obtain⟨r,h6,h7,h8⟩:=Wb (T:=T) hp (e:=14) (by decide)
  obtain⟨t',g1,g2,g3⟩:=Zb h7.lt
  obtain⟨q,h4,h5,h9,_,_⟩:=QF hT h7.lt g1
  exact⟨t',q,by simp[h,h6,h4],h7.trans h5,fun _ x=>absurd (h5.e0 x) h8,fun x=>absurd (h5.e0 x) h8⟩
theorem Wm {p:PS} (hp:p.pos<T.length) (n m:Int):∃ q,Z8 T n m p=some q∧Step T p q:=by
 unfold Z8
 split
 ·obtain⟨q,h1,h2,_⟩:=Wb (T:=T) hp (e:=16) (by decide)
  exact⟨q,h1,h2⟩
 ·exact⟨p,rfl,.refl hp⟩
theorem F3 {p q:PS} {nd:Nd} (h:Step T p q) (he:q.e≠0):iS T p (some (nd,q)):=⟨nd,q,rfl,h,fun _ x=>absurd x he,fun x=>absurd x he⟩
theorem FX {k a:Int} {s:Tx} {kids:List Nd} (h:∃ t∈T,t.pos=a) (hk:∀ c∈kids,Pl T c∧a≤c.pos) (hl:kids.length≤T.length+3):Pl T (zT k a s kids) :=
 .mk _ h (fun c hc=>(hk c hc).1) (fun c hc=>(hk c hc).2) hl (by simp[zT,Nd.names])
theorem Pl.at {n:Nd} (h:Pl T n):∃ t∈T,t.pos=n.pos:=by cases h;assumption
theorem Pl.sub {n:Nd} (h:Pl T n):∀ c∈n.kids,Pl T c∧n.pos≤c.pos:=by
 cases h with
 | mk _ h h1 h2 h3 h4=>exact fun c hc=>⟨h1 c hc,h2 c hc⟩
theorem Pl.small {n:Nd} (h:Pl T n):n.kids.length≤T.length+3∧n.names.length≤T.length+3:=by
 cases h with
 | mk _ h h1 h2 h3 h4=>exact⟨h3,h4⟩
theorem nH {n:Nd} (h:Pl T n) {l:List Nd} (hl:∀ c∈l,Pl T c∧n.pos≤c.pos) (hb:n.kids.length+l.length≤T.length+3):Pl T (n.addKids l):=by
 have hs:=h.sub
 have ha:=h.at
 have hm:=h.small
 cases n with
 | mk k t m a ns ks =>
  refine .mk _ ha (fun c hc=>?_) (fun c hc=>?_) (by simpa[Nd.addKids,Nd.kids] using hb) hm.2
  ·simp only[Nd.addKids,Nd.kids,List.mem_append] at hc
   rcases hc with hc | hc
   ·exact (hs c hc).1
   ·exact (hl c hc).1
  ·simp only[Nd.addKids,Nd.kids,List.mem_append] at hc
   rcases hc with hc | hc
   ·exact (hs c hc).2
   ·exact (hl c hc).2
theorem FD (n:Nd) (l:List Nd):(n.addKids l).kids=n.kids++l:=by cases n;rfl
theorem GU (n:Nd) (l:List Nd):(n.addKids l).names=n.names:=by cases n;rfl
theorem Ud (n:Nd) (c:Tx):(n.addName c).kids=n.kids:=by cases n;rfl
theorem GG (n:Nd) (c:Tx):(n.addName c).names=n.names++[c]:=by cases n;rfl
theorem HT (n c:Nd):n.addKid c=n.addKids [c]:=by cases n;rfl
theorem jX (n:Nd) (l:List Nd):(n.addKids l).pos=n.pos:=by cases n;rfl
theorem Ed (n:Nd) (c:Tx):(n.addName c).pos=n.pos:=by cases n;rfl
theorem nM {n:Nd} (h:Pl T n) (c:Tx) (hb:n.names.length+1≤T.length+3):Pl T (n.addName c):=by
 have hs:=h.sub
 have ha:=h.at
 have hm:=h.small
 cases n with
 | mk k t m a ns ks=>exact .mk _ ha (fun c hc=>(hs c hc).1) (fun c hc=>(hs c hc).2) hm.1 (by simpa[Nd.addName,Nd.names] using hb)
theorem NdInv.mono (hT:TOK T) {a:Int} {nd:Nd} {p q:PS} (h:NdInv T a nd p) (s:Step T p q):NdInv T a nd q:=fun x=>by
 obtain⟨h1,h2,h3,h4,h5⟩:=h (s.e0 x)
 have:=s.le
 exact⟨h1,h2,Int.le_trans h3 (Ho hT s.le s.lt),by omega,by omega⟩
theorem NdInv.lo {a b:Int} {nd:Nd} {p:PS} (h:NdInv T a nd p) (hb:p.e=0→b≤a):NdInv T b nd p:=fun x=>⟨(h x).1,Int.le_trans (hb x) (h x).2.1,(h x).2.2⟩
theorem NdInv.lo' (hT:TOK T) {nd:Nd} {p q r:PS} (h:NdInv T (H6 T q.pos) nd r) (s:Step T p q):NdInv T (H6 T p.pos) nd r:=h.lo fun _=>Ho hT s.le s.lt
theorem NdInv.add (hT:TOK T) {a:Int} {nd c:Nd} {p q:PS} (h:NdInv T a nd p) (s:Step T p q) (hx:Strict p q) (hc:NdInv T (H6 T p.pos) c q):NdInv T a (nd.addKid c) q:=fun x=>by
 obtain⟨h1,h2,h3,h4,h5⟩:=h (s.e0 x)
 obtain⟨c1,c2,c3,_,_⟩:=hc x
 have hlt:=hx (s.e0 x) x
 have hq:=s.lt
 rw[HT,jX,FD,GU,List.length_append,List.length_singleton]
 refine⟨nH h1 ?_ (by rw[List.length_singleton];omega),h2,Int.le_trans h3 (Ho hT s.le s.lt),by omega,by omega⟩
 intro d hd
 rw[List.mem_singleton.1 hd]
 exact⟨c1,Int.le_trans h3 c2⟩
theorem NdInv.node (hT:TOK T) {a:Int} {k:Int} {s:Tx} {kids:List Nd} {t:Tk} {p q:PS} (st:Step T p q) (ht:q.e=0→t∈T∧t.pos=H6 T p.pos) (ha:q.e=0→a≤H6 T p.pos) (hk:q.e=0→∀ c∈kids,Pl T c∧H6 T p.pos≤c.pos) (hl:kids.length≤3:=by simp) :
  NdInv T a (zT k t.pos s kids) q:=fun x=>by
 obtain⟨h1,h2⟩:=ht x
 refine⟨FX ⟨t,h1,rfl⟩ (by rw[h2];exact hk x) (by omega),?_,?_,by show kids.length≤_;omega,by simp[zT,Nd.names]⟩
 ·show a≤t.pos;rw[h2];exact ha x
 ·show t.pos≤_;rw[h2];exact Ho hT st.le st.lt
theorem Tot.at {m:Nat} {e:PM Nd} (h:Tot T m e) {p:PS} (hp:p.pos<T.length) (h1:m≤p.deep) (h2:p.deep≤40):∃ nd q,e p=some (nd,q)∧Step T p q∧Strict p q∧NdInv T (H6 T p.pos) nd q:=h p hp h1 h2
theorem Fuel.next {n:Nat} {p q:PS} (h:Fuel T (n+1) p) (hp:p.pos<T.length) (h0:p.e=0) (x:Strict p q):Fuel T n q:=by
 have h1:=h.2 h0
 refine⟨by omega,fun hq=>?_⟩
 have:=x h0 hq
 omega
theorem Us {p q:PS}:Fuel T (T.length+2) q:=⟨by omega,fun _=>by omega⟩
theorem qT (hT:TOK T) {m:Nat} {e:PM Nd} (he:Tot T (m+1) e):Tot T m (X9 T e):=by
 intro p hp h1 h2
 unfold X9
 by_cases hd:40≤p.deep
 ·obtain⟨q,g1,g2,g3⟩:=Wb (T:=T) hp (e:=15) (by decide)
  rw[if_pos hd,g1];simp only[Option.bind_some]
  rw[if_pos g3];exact F3 g2 g3
 ·rw[if_neg hd];simp only[Option.bind_some]
  by_cases h0:p.e=0
  ·rw[if_neg (by simp[h0])]
   obtain⟨nd,q,g1,g2,g3,g4⟩:=he { p with deep:=p.deep+1 } hp (by show m+1≤p.deep+1;omega) (by show p.deep+1≤40;omega)
   rw[g1];simp only[Option.bind_some]
   have gd:q.deep=p.deep+1:=g2.deep
   rw[if_neg (by omega)]
   exact⟨nd,_,rfl,⟨by show q.deep-1=p.deep;omega,g2.flat,g2.le,g2.lt,fun x=>absurd h0 x⟩,g3,g4⟩
  ·rw[if_pos h0];exact F3 (.refl hp) h0
theorem BW (hT:TOK T) {m:Nat} {e:PM Nd} (he:Tot T (m+1) e):Tot T m (YW T e):=by
 intro p hp h1 h2
 unfold YW
 obtain⟨p1,e1,s1,x1⟩:=Qj hT hp [40]
 obtain⟨nd,p2,e2,s2,x2,r2⟩:=qT hT he p1 s1.lt (by rw[s1.deep];exact h1) (by rw[s1.deep];exact h2)
 obtain⟨p3,e3,s3,x3⟩:=Qj hT s2.lt [41]
 simp only[e1,e2,e3,Option.bind_some,Option.map_some]
 exact⟨nd,p3,rfl,s1.trans (s2.trans s3),x1.l (s2.trans s3),(r2.mono hT s3).lo' hT s1⟩
theorem Di (hT:TOK T) {m:Nat} {kinds:List (Int×Int)} (hk:∀ q∈kinds,q.1≠0):Tot T m (Xs T kinds):=by
 intro p hp h1 h2
 unfold Xs
 obtain⟨t,g1,g2,g3⟩:=Zb hp
 rw[g1];simp only[Option.bind_some]
 by_cases h:((kinds.find? fun q=>q.1==t.kind).map (·.2)).getD 0=0
 ·obtain⟨q,e1,s1,x1⟩:=Wb (T:=T) hp (e:=14) (by decide)
  rw[if_pos h,e1];exact F3 s1 x1
 ·obtain⟨q,e1,s1,x1,y1,z1⟩:=QF hT hp g1
  have hkd:t.kind≠0:=by
   intro h0
   cases hf:kinds.find? fun q=>q.1==t.kind with
   | none=>rw[hf] at h;exact h rfl
   | some q =>
    have a:=List.find?_some hf
    have b:=List.mem_of_find?_eq_some hf
    simp only[beq_iff_eq] at a
    exact hk q b (a.trans h0)
  rw[if_neg h,e1]
  have h0:=(y1 hkd).1
  obtain⟨l1,l2⟩:=Qf (g2 h0)
  refine⟨_,q,rfl,s1,fun _ _=>by have:=(y1 hkd).2;omega,fun _=>⟨.mk _ ⟨t,l2,rfl⟩ (fun c hc=>by cases hc) (fun c hc=>by cases hc) (by simp[Nd.kids]) (by simp[Nd.names]),?_,?_,by simp[Nd.kids],by simp[Nd.names]⟩⟩
  ·show _≤t.pos;rw[l1];exact Int.le_refl _
  ·show t.pos≤_;rw[l1];exact Ho hT s1.le s1.lt
def LOut (T:List Tk) (a:Int) (p:PS) (x:Option (Nd×PS)):Prop:=∃ nd q,x=some (nd,q)∧Step T p q∧NdInv T a nd q
theorem LOut.of {a:Int} {p p':PS} {x:Option (Nd×PS)} (s:Step T p p') (h:LOut T a p' x):LOut T a p x:=by
 obtain⟨nd,q,h1,h2,h3⟩:=h;exact⟨nd,q,h1,s.trans h2,h3⟩
theorem vp (hT:TOK T) {m:Nat} {e:PM Nd} (he:Tot T (m+1) e) {a:Int}:∀ (n:Nat) (nd:Nd) (p:PS),p.pos<T.length→m≤p.deep→p.deep≤40→Fuel T n p→NdInv T a nd p→LOut T a p (gF T e n nd p)
 | 0,nd,p,_,_,_,hf,_=>absurd hf.1 (by omega)
 | n+1,nd,p,hp,h1,h2,hf,hn=>by
  unfold gF
  obtain⟨t,g1,g2,g3⟩:=Zb hp
  rw[g1];simp only[Option.bind_some]
  by_cases h3:t.kind=3
  ·obtain⟨q,e1,s1,x1,y1,z1⟩:=QF hT hp g1
   rw[if_pos h3,e1];simp only[Option.bind_some]
   have hk:t.kind≠0:=by omega
   have h0:=(y1 hk).1
   have hx:Strict p q:=fun _ _=>by have:=(y1 hk).2;omega
   refine LOut.of s1 (vp hT he n _ q s1.lt (by rw[s1.deep];exact h1) (by rw[s1.deep];exact h2) (hf.next hp h0 hx) (hn.add hT s1 hx (.node hT s1 (fun _=>(Qf (g2 h0)).symm) (fun _=>Int.le_refl _) (fun _ c hc=>by cases hc))))
  ·rw[if_neg h3]
   obtain⟨b,e2,x2⟩:=KE hp [40]
   rw[e2];simp only[Option.bind_some]
   cases b with
   | true =>
    obtain⟨c,q,e3,s3,x3,r3⟩:=BW hT he p hp h1 h2
    simp only[if_true,e3,Option.bind_some]
    exact LOut.of s3 (vp hT he n _ q s3.lt (by rw[s3.deep];exact h1) (by rw[s3.deep];exact h2) (hf.next hp (x2 rfl) x3) (hn.add hT s3 x3 r3))
   | false=>exact⟨nd,p,rfl,.refl hp,hn⟩
theorem oS (hT:TOK T) {m:Nat} {e:PM Nd} (he:Tot T (m+1) e):Tot T m (b7 T e):=by
 intro p hp h1 h2
 unfold b7
 obtain⟨t,q,e1,s1,x1,y1⟩:=VY hT hp (k:=3) (by decide)
 rw[e1];simp only[Option.bind_some]
 obtain⟨nd,r,e2,s2,r2⟩:=vp hT he (a:=H6 T p.pos) (T.length+2) (zT 27 t.pos t.text []) q s1.lt (by rw[s1.deep];exact h1) (by rw[s1.deep];exact h2) (Us (p:=p))
  (.node hT s1 (fun x=>⟨(y1 x).2.1,(y1 x).1⟩) (fun _=>Int.le_refl _) (fun _ c hc=>by cases hc))
 exact⟨nd,r,e2,s1.trans s2,x1.l s2,r2⟩
theorem EN (hT:TOK T):∀ (n m:Nat),43≤m+n→Tot T m (bU T n)
 | 0,m,h=>fun p hp h1 h2=>by omega
 | n+1,m,h=>oS hT (EN hT n (m+1) (by omega))
theorem vL (hT:TOK T) {m:Nat} {e:PM Nd} (he:Tot T (m+1) e) {a:Int}:∀ (n:Nat) (more:Bool) (nd:Nd) (p:PS),p.pos<T.length→m≤p.deep→p.deep≤40→Fuel T n p→NdInv T a nd p→LOut T a p (GX T e n more nd p)
 | 0,more,nd,p,_,_,_,hf,_=>absurd hf.1 (by omega)
 | n+1,more,nd,p,hp,h1,h2,hf,hn=>by
  unfold GX
  by_cases hc:more=true∧p.e=0
  ·rw[if_pos hc]
   obtain⟨p1,e1,s1⟩:=Wm (T:=T) hp nd.kids.length 4
   obtain⟨c,p2,e2,s2,x2,r2⟩:=qT hT he p1 s1.lt (by rw[s1.deep];exact h1) (by rw[s1.deep];exact h2)
   obtain⟨b,p3,e3,s3,y3,z3,_⟩:=Vr hT s2.lt [44]
   simp only[e1,e2,e3,Option.bind_some]
   have s12:=s1.trans s2
   have s13:=s12.trans s3
   refine LOut.of s13 (vL hT he n b _ p3 s13.lt (by rw[s13.deep];exact h1) (by rw[s13.deep];exact h2) (hf.next hp hc.2 ((Strict.r s1 s2 x2).l s3)) ?_)
   exact (hn.add hT s12 (Strict.r s1 s2 x2) (r2.lo' hT s1)).mono hT s3
  ·rw[if_neg hc];exact⟨nd,p,rfl,.refl hp,hn⟩
theorem La (hT:TOK T) {m:Nat} {e:PM Nd} (he:Tot T (m+1) e):Tot T m (FI T e):=by
 intro p hp h1 h2
 unfold FI
 obtain⟨t,p1,e1,s1,x1,y1⟩:=VY hT hp (k:=4) (by decide)
 obtain⟨b,p2,e2,s2,y2,z2,_⟩:=Vr hT s1.lt [111,102]
 simp only[e1,e2,Option.bind_some]
 have s12:=s1.trans s2
 have hn:NdInv T (H6 T p.pos) (zT 26 t.pos t.text []) p2 :=.node hT s12 (fun x=>⟨(y1 (s2.e0 x)).2.1,(y1 (s2.e0 x)).1⟩) (fun _=>Int.le_refl _) (fun _ c hc=>by cases hc)
 cases b with
 | true =>
  obtain⟨nd,q,e3,s3,r3⟩:=vL hT he (T.length+2) true _ p2 s2.lt (by rw[s12.deep];exact h1) (by rw[s12.deep];exact h2) (Us (p:=p)) hn
  exact⟨nd,q,e3,s12.trans s3,x1.l (s2.trans s3),r3⟩
 | false=>exact⟨_,p2,rfl,s12,x1.l s2,hn⟩
theorem BM (hT:TOK T) {a:Int}:∀ (n:Nat) (nd:Nd) (p:PS),p.pos<T.length→Fuel T n p→NdInv T a nd p→LOut T a p (Yx T n nd p)
 | 0,nd,p,_,hf,_=>absurd hf.1 (by omega)
 | n+1,nd,p,hp,hf,hn=>by
  unfold Yx
  obtain⟨t,g1,g2,g3⟩:=Zb hp
  rw[g1];simp only[Option.bind_some]
  by_cases h3:t.kind=3
  ·have h0:p.e=0:=by
    by_cases c:p.e=0
    ·exact c
    ·rw[g3 c] at h3;cases h3
   obtain⟨p1,e1,s1⟩:=Wm (T:=T) hp nd.names.length 4
   obtain⟨t2,k1,k2,k3⟩:=Zb s1.lt
   obtain⟨p2,e2,s2,x2,y2,z2⟩:=QF hT s1.lt k1
   simp only[if_pos h3,e1,e2,Option.bind_some]
   have s12:=s1.trans s2
   have hx:Strict p p2:=fun _ hq=>by
    have h5:=s2.e0 hq
    have:p1=p:=by
     unfold Z8 at e1
     split at e1
     ·unfold Za at e1
      rw[if_pos h0,g2 h0] at e1
      simp only[Option.map_some,Option.some.injEq] at e1
      subst e1;cases h5
     ·exact (Option.some.inj e1).symm
    subst this
    have ht:t2=t:=by rw[g1] at k1;exact (Option.some.inj k1).symm
    subst ht
    have:=(y2 (by omega)).2
    omega
   refine LOut.of s12 (BM hT n _ p2 s12.lt (hf.next hp h0 hx) fun x=>?_)
   have:=hn.mono hT s12 x
   have h5:=(hn (s12.e0 x)).2.2.2.2
   have h6:=hx h0 x
   have h7:=s12.lt
   exact⟨nM this.1 _ (by omega),by rw[Ed];exact this.2.1,by rw[Ed];exact this.2.2.1,by rw[Ud];exact this.2.2.2.1,by rw[GG,List.length_append,List.length_singleton];omega⟩
  ·rw[if_neg h3];exact⟨nd,p,rfl,.refl hp,hn⟩
theorem LP (hT:TOK T) {m:Nat} {e:PM Nd} (he:Tot T (m+1) e) {a:Int}:∀ (n:Nat) (more:Bool) (nd:Nd) (p:PS),p.pos<T.length→m≤p.deep→p.deep≤40→Fuel T n p→NdInv T a nd p→LOut T a p (Wv T e n more nd p)
 | 0,more,nd,p,_,_,_,hf,_=>absurd hf.1 (by omega)
 | n+1,more,nd,p,hp,h1,h2,hf,hn=>by
  unfold Wv
  by_cases hc:more=true∧p.e=0
  ·rw[if_pos hc]
   obtain⟨p1,e1,s1⟩:=Wm (T:=T) hp nd.kids.length 20
   obtain⟨c,p2,e2,s2,x2,r2⟩:=La hT he p1 s1.lt (by rw[s1.deep];exact h1) (by rw[s1.deep];exact h2)
   obtain⟨b,p3,e3,s3,y3,z3,_⟩:=Vr hT s2.lt [124]
   simp only[e1,e2,e3,Option.bind_some]
   have s12:=s1.trans s2
   have s13:=s12.trans s3
   refine LOut.of s13 (LP hT he n b _ p3 s13.lt (by rw[s13.deep];exact h1) (by rw[s13.deep];exact h2) (hf.next hp hc.2 ((Strict.r s1 s2 x2).l s3)) ?_)
   exact (hn.add hT s12 (Strict.r s1 s2 x2) (r2.lo' hT s1)).mono hT s3
  ·rw[if_neg hc];exact⟨nd,p,rfl,.refl hp,hn⟩
theorem we (hT:TOK T) {m:Nat} {e:PM Nd} (he:Tot T (m+1) e):Tot T m (XP T e):=by
 intro p hp h1 h2
 unfold XP
 obtain⟨t,g1,g2,g3⟩:=Zb hp
 obtain⟨p1,e1,s1,y1,_,_⟩:=QF hT hp g1
 obtain⟨u,p2,e2,s2,x2,y2⟩:=VY hT s1.lt (k:=3) (by decide)
 simp only[e1,e2,Option.bind_some]
 have s12:=s1.trans s2
 have hn:NdInv T (H6 T p.pos) (zT 25 t.pos u.text []) p2 :=.node hT s12 (fun x=>(Qf (g2 (s12.e0 x))).symm) (fun _=>Int.le_refl _) (fun _ c hc=>by cases hc)
 obtain⟨nd,p3,e3,s3,r3⟩:=BM hT (T.length+2) _ p2 s2.lt (Us (p:=p)) hn
 obtain⟨p4,e4,s4,x4⟩:=Qj hT s3.lt [61]
 have s14:=(s12.trans s3).trans s4
 obtain⟨nd2,p5,e5,s5,r5⟩:=LP hT he (T.length+2) true nd p4 s4.lt (by rw[s14.deep];exact h1) (by rw[s14.deep];exact h2) (Us (p:=p)) (r3.mono hT s4)
 simp only[e3,e4,e5,Option.bind_some]
 exact⟨nd2,p5,rfl,s14.trans s5,(Strict.r s1 (s2.trans (s3.trans (s4.trans s5))) (x2.l (s3.trans (s4.trans s5)))),r5⟩
theorem XN (hT:TOK T) {m:Nat} {e:PM Nd} (he:Tot T (m+1) e):Tot T m (Yf T e):=by
 intro p hp h1 h2
 unfold Yf
 obtain⟨t,g1,g2,g3⟩:=Zb hp
 obtain⟨b,p1,e1,s1,y1,z1,w1⟩:=Vr hT hp [95]
 simp only[g1,e1,Option.bind_some]
 cases b with
 | true =>
  refine⟨_,p1,rfl,s1,fun _ _=>by have:=(z1 rfl).2;omega,.node hT s1 (fun x=>(Qf (g2 (s1.e0 x))).symm) (fun _=>Int.le_refl _) (fun _ c hc=>by cases hc)⟩
 | false =>
  obtain rfl:=w1 rfl
  obtain⟨b,e2,x2⟩:=KE hp [40]
  simp only[Bool.false_eq_true,if_false,e2,Option.bind_some]
  cases b with
  | true=>exact BW hT he _ hp h1 h2
  | false=>exact Di hT (m:=m) (by decide) _ hp h1 h2
theorem Dd {p:PS} (hp:p.pos<T.length):∃ b,JE T p=some b∧(b=true→p.e=0):=by
 obtain⟨t,h1,h2,h3⟩:=Zb hp
 refine⟨_,by unfold JE;rw[h1];rfl,fun hb=>?_⟩
 by_cases he:p.e=0
 ·exact he
 ·rw[h3 he] at hb;exact absurd hb (by decide)
theorem vF (hT:TOK T) {m:Nat} {e:PM Nd} (he:Tot T (m+1) e) {a:Int}:∀ (n:Nat) (con:Bool) (nd:Nd) (p:PS),p.pos<T.length→m≤p.deep→p.deep≤40→Fuel T n p→NdInv T a nd p→LOut T a p (WY T e n con nd p)
 | 0,con,nd,p,_,_,_,hf,_=>absurd hf.1 (by omega)
 | n+1,con,nd,p,hp,h1,h2,hf,hn=>by
  unfold WY
  cases con with
  | false=>exact⟨nd,p,rfl,.refl hp,hn⟩
  | true =>
   obtain⟨b,e0,x0⟩:=Dd hp
   simp only[if_true,e0,Option.bind_some]
   cases b with
   | false=>exact⟨nd,p,rfl,.refl hp,hn⟩
   | true =>
    obtain⟨p1,e1,s1⟩:=Wm (T:=T) hp nd.kids.length 4
    obtain⟨c,p2,e2,s2,x2,r2⟩:=XN hT he p1 s1.lt (by rw[s1.deep];exact h1) (by rw[s1.deep];exact h2)
    simp only[if_true,e1,e2,Option.bind_some]
    have s12:=s1.trans s2
    exact LOut.of s12 (vF hT he n true _ p2 s12.lt (by rw[s12.deep];exact h1) (by rw[s12.deep];exact h2) (hf.next hp (x0 rfl) (Strict.r s1 s2 x2)) (hn.add hT s12 (Strict.r s1 s2 x2) (r2.lo' hT s1)))
theorem vR (hT:TOK T) {m:Nat} {e:PM Nd} (he:Tot T (m+1) e):Tot T m (Do T e):=by
 intro p hp h1 h2
 unfold Do
 obtain⟨t,g1,g2,g3⟩:=Zb hp
 obtain⟨c,p1,e1,s1,x1,r1⟩:=XN hT he p hp h1 h2
 simp only[g1,e1,Option.bind_some]
 obtain⟨nd,p2,e2,s2,r2⟩:=vF hT he (T.length+2) (t.kind==4) c p1 s1.lt (by rw[s1.deep];exact h1) (by rw[s1.deep];exact h2) (Us (p:=p)) r1
 exact⟨nd,p2,e2,s1.trans s2,x1.l s2,r2⟩
theorem YK (hT:TOK T):∀ (n m:Nat),43≤m+n→Tot T m (Df T n)
 | 0,m,h=>fun p hp h1 h2=>by omega
 | n+1,m,h=>vR hT (YK hT n (m+1) (by omega))
theorem qZ (hT:TOK T) {m:Nat} {e:PM Nd} (he:Tot T (m+1) e):Tot T m (Q7 T e):=by
 intro p hp h1 h2
 unfold Q7
 obtain⟨nd,q,e1,s1,x1,r1⟩:=qT hT he { p with flat:=false } hp h1 h2
 rw[e1]
 exact⟨nd,_,rfl,⟨s1.deep,rfl,s1.le,s1.lt,fun h=>by rw[s1.err h]⟩,x1,r1⟩
theorem G' (hT:TOK T) {m:Nat} {e pt:PM Nd} (he:Tot T (m+1) e) (ht:Tot T (m+1) pt) {a:Int} (nd:Nd) (p:PS) (hp:p.pos<T.length) (h1:m≤p.deep) (h2:p.deep≤40) (hn:NdInv T a nd p) :
  ∃ p1 p2 c p3 p4 w q,Z8 T (Int.tdiv nd.kids.length 2) 20 p=some p1∧qJ T [124] p1=some p2∧X9 T pt p2=some (c,p3)∧qJ T [45,62] p3=some p4∧Q7 T e p4=some (w,q)∧Step T p q∧Strict p q∧NdInv T a (nd.addKids [c,w]) q:=by
 obtain⟨p1,e1,s1⟩:=Wm (T:=T) hp (Int.tdiv nd.kids.length 2) 20
 obtain⟨p2,e2,s2,x2⟩:=Qj hT s1.lt [124]
 have s12:=s1.trans s2
 obtain⟨c,p3,e3,s3,x3,r3⟩:=qT hT ht p2 s2.lt (by rw[s12.deep];exact h1) (by rw[s12.deep];exact h2)
 obtain⟨p4,e4,s4,x4⟩:=Qj hT s3.lt [45,62]
 have s14:=s12.trans (s3.trans s4)
 obtain⟨w,p5,e5,s5,x5,r5⟩:=qZ hT he p4 s4.lt (by rw[s14.deep];exact h1) (by rw[s14.deep];exact h2)
 refine⟨p1,p2,c,p3,p4,w,p5,e1,e2,e3,e4,e5,s14.trans s5,(Strict.r s1 s2 x2).l (s3.trans (s4.trans s5)),?_⟩
 have k1:=hn.add hT (s12.trans s3) (Strict.r s12 s3 x3) (r3.lo' hT s12)
 have k2:=k1.add hT (s4.trans s5) (Strict.r s4 s5 x5) (r5.lo' hT s4)
 have:nd.addKids [c,w]=(nd.addKid c).addKid w:=by cases nd;simp[Nd.addKids,Nd.addKid]
 rw[this];exact k2
theorem Fe (hT:TOK T) {m:Nat} {e pt:PM Nd} (he:Tot T (m+1) e) (ht:Tot T (m+1) pt) {a:Int}:∀ (n:Nat) (nd:Nd) (p:PS),p.pos<T.length→m≤p.deep→p.deep≤40→Fuel T n p→NdInv T a nd p→LOut T a p (XF T e pt n false nd p)
 | 0,nd,p,_,_,_,hf,_=>absurd hf.1 (by omega)
 | n+1,nd,p,hp,h1,h2,hf,hn=>by
  unfold XF
  obtain⟨b,e0,x0⟩:=KE hp [124]
  simp only[Bool.false_eq_true,if_false,e0,Option.bind_some]
  cases b with
  | false=>exact⟨nd,p,rfl,.refl hp,hn⟩
  | true =>
   obtain⟨p1,p2,c,p3,p4,w,q,e1,e2,e3,e4,e5,s,x,r⟩:=G' hT he ht nd p hp h1 h2 hn
   simp only[if_true,e1,e2,e3,e4,e5,Option.bind_some]
   exact LOut.of s (Fe hT he ht n _ q s.lt (by rw[s.deep];exact h1) (by rw[s.deep];exact h2) (hf.next hp (x0 rfl) x) r)
theorem kV (hT:TOK T) {m:Nat} {e pt:PM Nd} (he:Tot T (m+1) e) (ht:Tot T (m+1) pt) {a:Int} (nd:Nd) (p:PS) (hp:p.pos<T.length) (h1:m≤p.deep) (h2:p.deep≤40) (hn:NdInv T a nd p):LOut T a p (XF T e pt (T.length+2) true nd p):=by
 unfold XF
 obtain⟨p1,p2,c,p3,p4,w,q,e1,e2,e3,e4,e5,s,x,r⟩:=G' hT he ht nd p hp h1 h2 hn
 simp only[if_true,e1,e2,e3,e4,e5,Option.bind_some]
 refine LOut.of s (Fe hT he ht (T.length+1) _ q s.lt (by rw[s.deep];exact h1) (by rw[s.deep];exact h2) ⟨by omega,fun h0=>by have:=x (s.e0 h0) h0;omega⟩ r)
theorem BI (hT:TOK T) {m:Nat} {e pt:PM Nd} (he:Tot T (m+1) e) (ht:Tot T (m+1) pt):Tot T m (Jr T e pt):=by
 intro p hp h1 h2
 unfold Jr
 obtain⟨t,g1,g2,g3⟩:=Zb hp
 obtain⟨p1,e1,s1,y1,_,_⟩:=QF hT hp g1
 obtain⟨w,p2,e2,s2,x2,r2⟩:=qZ hT he p1 s1.lt (by rw[s1.deep];exact h1) (by rw[s1.deep];exact h2)
 have s12:=s1.trans s2
 obtain⟨p3,e3,s3,x3⟩:=Qj hT s2.lt [119,105,116,104]
 have s13:=s12.trans s3
 have hn:NdInv T (H6 T p.pos) (zT 11 t.pos [] [w]) p3 :=.node hT s13 (fun x=>(Qf (g2 (s13.e0 x))).symm) (fun _=>Int.le_refl _) (fun x c hc=>by
  rw[List.mem_singleton.1 hc]
  have:=(r2.lo' hT s1) (s3.e0 x)
  exact⟨this.1,this.2.1⟩)
 obtain⟨nd,p4,e4,s4,r4⟩:=kV hT he ht _ p3 s3.lt (by rw[s13.deep];exact h1) (by rw[s13.deep];exact h2) hn
 obtain⟨p5,e5,s5,x5⟩:=Qj hT s4.lt [101,110,100]
 simp only[e1,e2,e3,e4,e5,Option.bind_some,Option.map_some]
 exact⟨nd,p5,rfl,s13.trans (s4.trans s5),Strict.r s1 (s2.trans (s3.trans (s4.trans s5))) (x2.l (s3.trans (s4.trans s5))),r4.mono hT s5⟩
theorem vI (hT:TOK T) {m:Nat} {e:PM Nd} (he:Tot T (m+1) e):Tot T m (EA T e):=by
 intro p hp h1 h2
 unfold EA
 obtain⟨t,g1,g2,g3⟩:=Zb hp
 obtain⟨p1,e1,s1,y1,_,_⟩:=QF hT hp g1
 obtain⟨w,p2,e2,s2,x2,r2⟩:=qZ hT he p1 s1.lt (by rw[s1.deep];exact h1) (by rw[s1.deep];exact h2)
 obtain⟨p3,e3,s3,x3⟩:=Qj hT s2.lt [119,105,116,104]
 obtain⟨u,p4,e4,s4,x4,y4⟩:=VY hT s3.lt (k:=3) (by decide)
 obtain⟨p5,e5,s5,x5⟩:=Qj hT s4.lt [45,62]
 have s15:=(s1.trans s2).trans (s3.trans (s4.trans s5))
 obtain⟨v,p6,e6,s6,x6,r6⟩:=qZ hT he p5 s5.lt (by rw[s15.deep];exact h1) (by rw[s15.deep];exact h2)
 obtain⟨p7,e7,s7,x7⟩:=Qj hT s6.lt [101,110,100]
 simp only[e1,e2,e3,e4,e5,e6,e7,Option.bind_some,Option.map_some]
 have s17:=s15.trans (s6.trans s7)
 have s27:=s3.trans (s4.trans (s5.trans (s6.trans s7)))
 refine⟨_,p7,rfl,s17,Strict.r s1 (s2.trans s27) (x2.l s27),.node hT s17 (fun x=>(Qf (g2 (s17.e0 x))).symm) (fun _=>Int.le_refl _) (fun x c hc=>?_)⟩
 simp only[List.mem_cons,List.not_mem_nil,or_false] at hc
 rcases hc with rfl | rfl
 ·have:=(r2.lo' hT s1) (s27.e0 x);exact⟨this.1,this.2.1⟩
 ·have:=(r6.lo' hT s15) (s7.e0 x);exact⟨this.1,this.2.1⟩
theorem Zo (hT:TOK T) {m:Nat} {e pt:PM Nd} (he:Tot T (m+1) e) (ht:Tot T (m+1) pt):Tot T m (Xz T e pt):=by
 intro p hp h1 h2
 unfold Xz
 obtain⟨t,g1,g2,g3⟩:=Zb hp
 rw[g1];simp only[Option.bind_some]
 split
 ·exact BI hT he ht p hp h1 h2
 split
 ·exact vI hT he p hp h1 h2
 obtain⟨p1,e1,s1,y1,z1,_⟩:=QF hT hp g1
 split
 ·rename_i hk
  rw[e1]
  exact⟨_,p1,rfl,s1,fun _ _=>by have:=(z1 (QV hk)).2;omega,.node hT s1 (fun x=>(Qf (g2 (s1.e0 x))).symm) (fun _=>Int.le_refl _) (fun _ c hc=>by cases hc)⟩
 split
 ·rename_i hk
  obtain⟨b,p2,e2,s2,y2,z2,_⟩:=Vr hT s1.lt [41]
  simp only[e1,e2,Option.bind_some]
  have s12:=s1.trans s2
  have hx:Strict p p1:=fun _ _=>by have:=(z1 (QV hk)).2;omega
  cases b with
  | true=>exact⟨_,p2,rfl,s12,hx.l s2,.node hT s12 (fun x=>(Qf (g2 (s12.e0 x))).symm) (fun _=>Int.le_refl _) (fun _ c hc=>by cases hc)⟩
  | false =>
   obtain⟨w,p3,e3,s3,x3,r3⟩:=qZ hT he p2 s2.lt (by rw[s12.deep];exact h1) (by rw[s12.deep];exact h2)
   obtain⟨p4,e4,s4,x4⟩:=Qj hT s3.lt [41]
   simp only[Bool.false_eq_true,if_false,e3,e4,Option.bind_some,Option.map_some]
   exact⟨w,p4,rfl,s12.trans (s3.trans s4),hx.l (s2.trans (s3.trans s4)),(r3.lo' hT s12).mono hT s4⟩
 ·exact Di hT (m:=m) (by decide) p hp h1 h2
theorem Bv (hT:TOK T) {m:Nat} {e pt:PM Nd} (he:Tot T (m+1) e) (ht:Tot T (m+1) pt) {a:Int}:∀ (n:Nat) (nd:Nd) (p:PS),p.pos<T.length→m≤p.deep→p.deep≤40→NdInv T a nd p→LOut T a p (XS T e pt n nd p)
 | 0,nd,p,hp,_,_,hn=>⟨nd,p,rfl,.refl hp,hn⟩
 | n+1,nd,p,hp,h1,h2,hn=>by
  unfold XS
  obtain⟨c,p1,e1,s1,x1,r1⟩:=Zo hT he ht p hp h1 h2
  rw[e1];simp only[Option.bind_some]
  exact LOut.of s1 (Bv hT he ht n _ p1 s1.lt (by rw[s1.deep];exact h1) (by rw[s1.deep];exact h2) (hn.add hT s1 x1 r1))
theorem NdInv.bin (hT:TOK T) {a:Int} {k:Int} {s:Tx} {nd c:Nd} {p q:PS} (hn:NdInv T a nd p) (st:Step T p q) (hc:NdInv T (H6 T p.pos) c q):NdInv T a (zT k nd.pos s [nd,c]) q:=fun x=>by
 obtain⟨h1,h2,h3,_,_⟩:=hn (st.e0 x)
 obtain⟨c1,c2,c3,_,_⟩:=hc x
 refine⟨FX h1.at ?_ (by simp),h2,Int.le_trans h3 (Ho hT st.le st.lt),by simp[zT,Nd.kids],by simp[zT,Nd.names]⟩
 intro d hd
 simp only[List.mem_cons,List.not_mem_nil,or_false] at hd
 rcases hd with rfl | rfl
 ·exact⟨h1,Int.le_refl _⟩
 ·exact⟨c1,Int.le_trans h3 c2⟩
theorem H2 {t:Tk} (h:ZD t=true):t.kind≠0:=by
 intro h0
 unfold ZD isT at h
 simp[h0] at h
theorem FS (hT:TOK T) {m:Nat} {e pt:PM Nd} (he:Tot T (m+1) e) (ht:Tot T (m+1) pt) {a:Int}:∀ (n:Nat) (bare:Bool) (nd:Nd) (p:PS),p.pos<T.length→m≤p.deep→p.deep≤40→Fuel T n p→NdInv T a nd p→LOut T a p (JY T e pt n bare nd p)
 | 0,bare,nd,p,_,_,_,hf,_=>absurd hf.1 (by omega)
 | n+1,bare,nd,p,hp,h1,h2,hf,hn=>by
  unfold JY
  obtain⟨t,g1,g2,g3⟩:=Zb hp
  rw[g1];simp only[Option.bind_some]
  split
  ·rename_i hb
   have h0:p.e=0:=by
    by_cases c:p.e=0
    ·exact c
    ·exact absurd (by rw[g3 c];rfl) (H2 hb)
   cases bare with
   | true =>
    obtain⟨p1,e1,s1⟩:=Wm (T:=T) hp nd.kids.length 4
    obtain⟨c,p2,e2,s2,x2,r2⟩:=Zo hT he ht p1 s1.lt (by rw[s1.deep];exact h1) (by rw[s1.deep];exact h2)
    simp only[if_true,e1,e2,Option.bind_some]
    have s12:=s1.trans s2
    exact LOut.of s12 (FS hT he ht n true _ p2 s12.lt (by rw[s12.deep];exact h1) (by rw[s12.deep];exact h2) (hf.next hp h0 (Strict.r s1 s2 x2)) (hn.add hT s12 (Strict.r s1 s2 x2) (r2.lo' hT s1)))
   | false =>
    obtain⟨c,p2,e2,s2,x2,r2⟩:=Zo hT he ht p hp h1 h2
    simp only[Bool.false_eq_true,if_false,e2,Option.bind_some]
    exact LOut.of s2 (FS hT he ht n false _ p2 s2.lt (by rw[s2.deep];exact h1) (by rw[s2.deep];exact h2) (hf.next hp h0 x2) (hn.bin hT s2 r2))
  ·exact⟨nd,p,rfl,.refl hp,hn⟩
theorem Y' (hT:TOK T) {m:Nat} {e pt:PM Nd} (he:Tot T (m+1) e) (ht:Tot T (m+1) pt):Tot T m (Hl T e pt):=by
 intro p hp h1 h2
 unfold Hl
 obtain⟨t,g1,g2,g3⟩:=Zb hp
 rw[g1];simp only[Option.bind_some]
 split
 ·rename_i hk
  obtain⟨p1,e1,s1,y1,z1,_⟩:=QF hT hp g1
  rw[e1];simp only[Option.bind_some]
  obtain⟨nd,p2,e2,s2,r2⟩:=Bv hT he ht (a:=H6 T p.pos) (Qm t.text).2.toNat (zT (Qm t.text).1 t.pos [] []) p1 s1.lt (by rw[s1.deep];exact h1) (by rw[s1.deep];exact h2)
   (.node hT s1 (fun x=>(Qf (g2 (s1.e0 x))).symm) (fun _=>Int.le_refl _) (fun _ c hc=>by cases hc))
  have hx:Strict p p1:=fun _ _=>by have:=(z1 (by omega)).2;omega
  exact⟨nd,p2,e2,s1.trans s2,hx.l s2,r2⟩
 ·obtain⟨c,p1,e1,s1,x1,r1⟩:=Zo hT he ht p hp h1 h2
  rw[e1];simp only[Option.bind_some]
  obtain⟨nd,p2,e2,s2,r2⟩:=FS hT he ht (T.length+2) (t.kind==4) c p1 s1.lt (by rw[s1.deep];exact h1) (by rw[s1.deep];exact h2) (Us (p:=p)) r1
  exact⟨nd,p2,e2,s1.trans s2,x1.l s2,r2⟩
theorem j9 (hT:TOK T) {m:Nat} {part:PM Nd} {signs:List Tx} (he:Tot T m part) {a:Int}:∀ (n:Nat) (t:Tk) (nd:Nd) (p:PS),zR T p=some t→p.pos<T.length→m≤p.deep→p.deep≤40→Fuel T n p→NdInv T a nd p→LOut T a p (Ji T part signs n t nd p)
 | 0,t,nd,p,_,_,_,_,hf,_=>absurd hf.1 (by omega)
 | n+1,t,nd,p,ht,hp,h1,h2,hf,hn=>by
  unfold Ji
  split
  ·rename_i hk
   obtain⟨p1,e1,s1,y1,z1,_⟩:=QF hT hp ht
   obtain⟨c,p2,e2,s2,x2,r2⟩:=he p1 s1.lt (by rw[s1.deep];exact h1) (by rw[s1.deep];exact h2)
   obtain⟨t',g1,_,_⟩:=Zb s2.lt
   simp only[e1,e2,g1,Option.bind_some]
   have s12:=s1.trans s2
   have hz:=z1 (by omega)
   have hx:Strict p p1:=fun _ _=>by omega
   exact LOut.of s12 (j9 hT he n t' _ p2 g1 s12.lt (by rw[s12.deep];exact h1) (by rw[s12.deep];exact h2) (hf.next hp hz.1 (hx.l s2)) (hn.bin hT s12 (r2.lo' hT s1)))
  ·exact⟨nd,p,rfl,.refl hp,hn⟩
theorem Vz (hT:TOK T) {m:Nat} {part:PM Nd} {signs:List Tx} (he:Tot T m part):Tot T m (JQ T part signs):=by
 intro p hp h1 h2
 unfold JQ
 obtain⟨c,p1,e1,s1,x1,r1⟩:=he p hp h1 h2
 obtain⟨t,g1,_,_⟩:=Zb s1.lt
 simp only[e1,g1,Option.bind_some]
 obtain⟨nd,p2,e2,s2,r2⟩:=j9 hT he (signs:=signs) (T.length+2) t c p1 g1 s1.lt (by rw[s1.deep];exact h1) (by rw[s1.deep];exact h2) (Us (p:=p)) r1
 exact⟨nd,p2,e2,s1.trans s2,x1.l s2,r2⟩
theorem JH (hT:TOK T) {m:Nat} {e pt:PM Nd} (he:Tot T (m+1) e) (ht:Tot T (m+1) pt):Tot T m (GS T e pt):=Vz hT (Vz hT (Y' hT he ht))
theorem UD (hT:TOK T) {m:Nat} {e pt:PM Nd} (he:Tot T (m+1) e) (ht:Tot T (m+1) pt):Tot T m (Hx T e pt):=by
 intro p hp h1 h2
 unfold Hx
 obtain⟨c,p1,e1,s1,x1,r1⟩:=JH hT he ht p hp h1 h2
 obtain⟨t,g1,_,_⟩:=Zb s1.lt
 simp only[e1,g1,Option.bind_some]
 split
 ·obtain⟨p2,e2,s2,_⟩:=QF hT s1.lt g1
  have s12:=s1.trans s2
  obtain⟨d,p3,e3,s3,x3,r3⟩:=JH hT he ht p2 s2.lt (by rw[s12.deep];exact h1) (by rw[s12.deep];exact h2)
  simp only[e2,e3,Option.bind_some,Option.map_some]
  exact⟨_,p3,rfl,s12.trans s3,x1.l (s2.trans s3),r1.bin hT (s2.trans s3) (r3.lo' hT s2)⟩
 ·exact⟨c,p1,rfl,s1,x1,r1⟩
theorem jH (hT:TOK T) {m:Nat} {e:PM Nd} (he:Tot T (m+1) e) {p:PS} (hp:p.pos<T.length) (h1:m≤p.deep) (h2:p.deep≤40) :
  ∃ nm rec nd q,Ye T e p=some ((nm,rec,nd),q)∧Step T p q∧Strict p q∧NdInv T (H6 T p.pos) nd q:=by
 unfold Ye
 obtain⟨b,p1,e1,s1,_⟩:=Vr hT hp [114,101,99]
 obtain⟨t,p2,e2,s2,x2,_⟩:=VY hT s1.lt (k:=3) (by decide)
 obtain⟨p3,e3,s3,x3⟩:=Qj hT s2.lt [61]
 simp only[e1,e2,e3,Option.bind_some]
 have s13:=s1.trans (s2.trans s3)
 obtain⟨p4,e4,s4⟩:∃ p4,(if b=true∧p3.deep<40 then (Jn T [102,117,110] p3).bind fun b=>if b then some p3 else Za T 14 p3 else some p3)=some p4∧Step T p3 p4:=by
  split
  ·obtain⟨c,f1,_⟩:=KE s3.lt [102,117,110]
   rw[f1];simp only[Option.bind_some]
   split
   ·exact⟨p3,rfl,.refl s3.lt⟩
   ·obtain⟨q,f2,f3,_⟩:=Wb (T:=T) s3.lt (e:=14) (by decide)
    exact⟨q,f2,f3⟩
  ·exact⟨p3,rfl,.refl s3.lt⟩
 have s14:=s13.trans s4
 obtain⟨nd,p5,e5,s5,x5,r5⟩:=qT hT he p4 s4.lt (by rw[s14.deep];exact h1) (by rw[s14.deep];exact h2)
 simp only[e4,e5,Option.bind_some,Option.map_some]
 exact⟨_,_,nd,p5,rfl,s14.trans s5,Strict.r s14 s5 x5,r5.lo' hT s14⟩
theorem vD (hT:TOK T) {m:Nat} {e:PM Nd} (he:Tot T (m+1) e):Tot T m (GE T e):=by
 intro p hp h1 h2
 unfold GE
 obtain⟨t,g1,g2,g3⟩:=Zb hp
 obtain⟨p1,e1,s1,y1,_,_⟩:=QF hT hp g1
 obtain⟨nm,rec,v,p2,e2,s2,x2,r2⟩:=jH hT he s1.lt (by rw[s1.deep];exact h1) (by rw[s1.deep];exact h2)
 obtain⟨p3,e3,s3,x3⟩:=Qj hT s2.lt [105,110]
 have s13:=s1.trans (s2.trans s3)
 obtain⟨u,p4,e4,s4,x4,r4⟩:=qT hT he p3 s3.lt (by rw[s13.deep];exact h1) (by rw[s13.deep];exact h2)
 simp only[e1,e2,e3,e4,Option.bind_some,Option.map_some]
 have s14:=s13.trans s4
 refine⟨_,p4,rfl,s14,Strict.r s13 s4 x4,.node hT s14 (fun x=>(Qf (g2 (s14.e0 x))).symm) (fun _=>Int.le_refl _) (fun x c hc=>?_)⟩
 simp only[List.mem_cons,List.not_mem_nil,or_false] at hc
 rcases hc with rfl | rfl
 ·have:=(r2.lo' hT s1) ((s3.trans s4).e0 x);exact⟨this.1,this.2.1⟩
 ·have:=(r4.lo' hT s13) x;exact⟨this.1,this.2.1⟩
theorem ur (hT:TOK T) {m:Nat} {e:PM Nd} (he:Tot T (m+1) e):Tot T m (GO T e):=by
 intro p hp h1 h2
 unfold GO
 obtain⟨t,g1,g2,g3⟩:=Zb hp
 obtain⟨p1,e1,s1,y1,_,_⟩:=QF hT hp g1
 obtain⟨t2,p2,e2,s2,x2,_⟩:=VY hT s1.lt (k:=3) (by decide)
 obtain⟨p3,e3,s3,x3⟩:=Qj hT s2.lt [45,62]
 have s13:=s1.trans (s2.trans s3)
 obtain⟨u,p4,e4,s4,x4,r4⟩:=qT hT he p3 s3.lt (by rw[s13.deep];exact h1) (by rw[s13.deep];exact h2)
 simp only[e1,e2,e3,e4,Option.bind_some,Option.map_some]
 have s14:=s13.trans s4
 refine⟨_,p4,rfl,s14,Strict.r s13 s4 x4,.node hT s14 (fun x=>(Qf (g2 (s14.e0 x))).symm) (fun _=>Int.le_refl _) (fun x c hc=>?_)⟩
 rw[List.mem_singleton.1 hc]
 have:=(r4.lo' hT s13) x;exact⟨this.1,this.2.1⟩
theorem Dt (hT:TOK T) {m:Nat} {e:PM Nd} (he:Tot T (m+1) e):Tot T m (Jf T e):=by
 intro p hp h1 h2
 unfold Jf
 obtain⟨t,g1,g2,g3⟩:=Zb hp
 obtain⟨p1,e1,s1,y1,_,_⟩:=QF hT hp g1
 obtain⟨c,p2,e2,s2,x2,r2⟩:=qT hT he p1 s1.lt (by rw[s1.deep];exact h1) (by rw[s1.deep];exact h2)
 obtain⟨p3,e3,s3,x3⟩:=Qj hT s2.lt [116,104,101,110]
 have s13:=s1.trans (s2.trans s3)
 obtain⟨a,p4,e4,s4,x4,r4⟩:=qT hT he p3 s3.lt (by rw[s13.deep];exact h1) (by rw[s13.deep];exact h2)
 obtain⟨p5,e5,s5,x5⟩:=Qj hT s4.lt [101,108,115,101]
 have s15:=s13.trans (s4.trans s5)
 obtain⟨b,p6,e6,s6,x6,r6⟩:=qT hT he p5 s5.lt (by rw[s15.deep];exact h1) (by rw[s15.deep];exact h2)
 simp only[e1,e2,e3,e4,e5,e6,Option.bind_some,Option.map_some]
 have s16:=s15.trans s6
 refine⟨_,p6,rfl,s16,Strict.r s15 s6 x6,.node hT s16 (fun x=>(Qf (g2 (s16.e0 x))).symm) (fun _=>Int.le_refl _) (fun x d hd=>?_)⟩
 simp only[List.mem_cons,List.not_mem_nil,or_false] at hd
 rcases hd with rfl | rfl | rfl
 ·have:=(r2.lo' hT s1) ((s3.trans (s4.trans (s5.trans s6))).e0 x);exact⟨this.1,this.2.1⟩
 ·have:=(r4.lo' hT s13) ((s5.trans s6).e0 x);exact⟨this.1,this.2.1⟩
 ·have:=(r6.lo' hT s15) x;exact⟨this.1,this.2.1⟩
theorem vP (hT:TOK T) {m:Nat} {e pt:PM Nd} (he:Tot T (m+1) e) (ht:Tot T (m+1) pt):Tot T m (UJ T e pt):=by
 intro p hp h1 h2
 unfold UJ
 obtain⟨t,g1,g2,g3⟩:=Zb hp
 rw[g1];simp only[Option.bind_some]
 split
 ·exact vD hT he p hp h1 h2
 split
 ·exact ur hT he p hp h1 h2
 split
 ·exact Dt hT he p hp h1 h2
 obtain⟨c,p1,e1,s1,x1,r1⟩:=UD hT he ht p hp h1 h2
 rw[e1];simp only[Option.bind_some]
 obtain⟨b,p2,e2,s2⟩:∃ b p2,(if p1.flat then some (false,p1) else Xx T [59] p1)=some (b,p2)∧Step T p1 p2:=by
  split
  ·exact⟨_,_,rfl,.refl s1.lt⟩
  ·obtain⟨b,q,f1,f2,_⟩:=Vr hT s1.lt [59]
   exact⟨b,q,f1,f2⟩
 rw[e2];simp only[Option.bind_some]
 have s12:=s1.trans s2
 cases b with
 | true =>
  obtain⟨d,p3,e3,s3,x3,r3⟩:=qT hT he p2 s2.lt (by rw[s12.deep];exact h1) (by rw[s12.deep];exact h2)
  simp only[if_true,e3,Option.map_some]
  exact⟨_,p3,rfl,s12.trans s3,x1.l (s2.trans s3),r1.bin hT (s2.trans s3) (r3.lo' hT s2)⟩
 | false=>exact⟨c,p2,rfl,s12,x1.l s2,r1.mono hT s2⟩
theorem YI (hT:TOK T):∀ (n m:Nat),43≤m+n→Tot T m (Wx T n)
 | 0,m,h=>fun p hp h1 h2=>by omega
 | n+1,m,h=>vP hT (YI hT n (m+1) (by omega)) (YK hT (n+1) (m+1) (by omega))
theorem vW (hT:TOK T) {m:Nat} {e ty:PM Nd} (he:Tot T (m+1) e) (hy:Tot T (m+1) ty) {p:PS} (hp:p.pos<T.length) (h1:m≤p.deep) (h2:p.deep≤40) (hf:p.flat=false):iS T p (WE T e ty p):=by
 unfold WE
 obtain⟨b,e0,x0⟩:=KE hp [116,121,112,101]
 rw[e0];simp only[Option.bind_some]
 obtain⟨nd,p1,e1,s1,x1,r1⟩:iS T p (if b=true then XP T ty p else (ZM T p).bind fun r=>(Ye T e { r.2 with flat:=true }).map fun q=>(zT (if q.1.2.1 then 29 else 28) r.1.pos q.1.1 [q.1.2.2],{ q.2 with flat:=false })):=by
  cases b with
  | true=>exact we hT hy p hp h1 h2
  | false =>
   obtain⟨t,g1,g2,g3⟩:=Zb hp
   obtain⟨p1,e1,s1,y1,_,_⟩:=QF hT hp g1
   obtain⟨nm,rec,v,q,e2,s2,x2,r2⟩:=jH hT he (p:={ p1 with flat:=true }) s1.lt (by show m≤p1.deep;rw[s1.deep];exact h1) (by show p1.deep≤40;rw[s1.deep];exact h2)
   simp only[Bool.false_eq_true,if_false,e1,e2,Option.bind_some,Option.map_some]
   have s3:Step T p1 { q with flat:=false }:=⟨s2.deep,by show false=p1.flat;rw[s1.flat,hf],s2.le,s2.lt,fun h=>by
    have hh:=s2.err h
    rw[hh]
    have:p1.flat=false:=by rw[s1.flat,hf]
    cases p1;simp_all⟩
   have s13:=s1.trans s3
   refine⟨_,_,rfl,s13,Strict.r (q:=p1) s1 s3 x2,.node hT s13 (fun x=>(Qf (g2 (s13.e0 x))).symm) (fun _=>Int.le_refl _) (fun x c hc=>?_)⟩
   rw[List.mem_singleton.1 hc]
   have h5:NdInv T (H6 T p1.pos) v q:=r2
   have:=(NdInv.lo' (p:=p) (q:=p1) hT h5 s1) x
   exact⟨this.1,this.2.1⟩
 obtain⟨p2,e2,s2,x2⟩:=Qj hT s1.lt [59]
 simp only[e1,e2,Option.bind_some,Option.map_some]
 exact⟨nd,p2,rfl,s1.trans s2,x1.l s2,r1.mono hT s2⟩
theorem UN (hT:TOK T) {m:Nat} {e ty:PM Nd} (he:Tot T (m+1) e) (hy:Tot T (m+1) ty) {a:Int}:∀ (n:Nat) (nd:Nd) (p:PS),p.pos<T.length→m≤p.deep→p.deep≤40→p.flat=false→Fuel T n p→NdInv T a nd p→LOut T a p (VB T e ty n nd p)
 | 0,nd,p,_,_,_,_,hf,_=>absurd hf.1 (by omega)
 | n+1,nd,p,hp,h1,h2,hl,hf,hn=>by
  unfold VB
  obtain⟨a,e0,x0⟩:=KE hp [116,121,112,101]
  rw[e0];simp only[Option.bind_some]
  obtain⟨b,e1,x1⟩:∃ b,(if a=true then some true else Jn T [108,101,116] p)=some b∧(b=true→p.e=0):=by
   cases a with
   | true=>exact⟨true,rfl,fun _=>x0 rfl⟩
   | false=>exact KE hp [108,101,116]
  rw[e1];simp only[Option.bind_some]
  cases b with
  | false=>exact⟨nd,p,rfl,.refl hp,hn⟩
  | true =>
   obtain⟨p1,e2,s1⟩:=Wm (T:=T) hp nd.kids.length 60
   obtain⟨c,p2,e3,s2,x2,r2⟩:=vW hT he hy s1.lt (by rw[s1.deep];exact h1) (by rw[s1.deep];exact h2) (by rw[s1.flat];exact hl)
   simp only[if_true,e2,e3,Option.bind_some]
   have s12:=s1.trans s2
   exact LOut.of s12 (UN hT he hy n _ p2 s12.lt (by rw[s12.deep];exact h1) (by rw[s12.deep];exact h2) (by rw[s12.flat];exact hl) (hf.next hp (x1 rfl) (Strict.r s1 s2 x2)) (hn.add hT s12 (Strict.r s1 s2 x2) (r2.lo' hT s1)))
theorem dg (hT:TOK T) {e ty:PM Nd} (he:Tot T 1 e) (hy:Tot T 1 ty) {p:PS} (hp:p.pos<T.length) (hd:p.deep=0) (hf:p.flat=false):∃ nd q,KC T e ty p=some (nd,q)∧Step T p q∧NdInv T (H6 T p.pos) nd q:=by
 unfold KC
 obtain⟨t,g1,g2,g3⟩:=Zb hp
 rw[g1];simp only[Option.bind_some]
 obtain⟨nd,p1,e1,s1,r1⟩:=UN hT (m:=0) he hy (a:=H6 T p.pos) (T.length+2) (zT 30 t.pos [] []) p hp (by omega) (by omega) hf (Us (p:=p)) (.node hT (.refl hp) (fun x=>(Qf (g2 x)).symm) (fun _=>Int.le_refl _) (fun _ c hc=>by cases hc))
 obtain⟨p2,e2,s2,x2⟩:=Qj hT s1.lt [100,111]
 have s12:=s1.trans s2
 obtain⟨u,p3,e3,s3,x3,r3⟩:=qT (m:=0) hT he p2 s2.lt (by omega) (by rw[s12.deep];omega)
 obtain⟨t',k1,_,_⟩:=Zb s3.lt
 simp only[e1,e2,e3,k1,Option.bind_some]
 have hn:=(r1.mono hT s2).add hT s3 x3 r3
 split
 ·obtain⟨q,f1,f2,f3⟩:=Wb (T:=T) s3.lt (e:=14) (by decide)
  simp only[f1,Option.map_some]
  exact⟨_,q,rfl,s12.trans (s3.trans f2),fun x=>absurd x f3⟩
 ·exact⟨_,p3,rfl,s12.trans s3,hn⟩
theorem mH (hT:TOK T):∃ nd b e,YO T=some (nd,b,e)∧(e=0→b=0∧Pl T nd)∧(e≠0→nd=J9):=by
 obtain⟨nd,q,h1,h2,h3⟩:=dg hT (YI hT 42 1 (by omega)) (EN hT 42 1 (by omega)) (p:=⟨0,0,false,0,0⟩) hT.pos rfl rfl
 unfold YO
 rw[h1];simp only[Option.map_some]
 by_cases he:q.e=0
 ·exact⟨nd,0,0,by simp[he],fun _=>⟨rfl,(h3 he).1⟩,fun x=>absurd rfl x⟩
 ·exact⟨J9,q.bad,q.e,by simp[he],fun x=>absurd x he,fun _=>rfl⟩
end Go.AL
