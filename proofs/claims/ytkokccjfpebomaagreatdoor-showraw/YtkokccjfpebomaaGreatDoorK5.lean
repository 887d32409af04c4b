/- The parser ends, whatever the tokens; each node stands at a token, none ahead of the node that it is in. -/
import Derived.Test.YtkokccjfpebomaaGreatDoorM5
set_option linter.all false
namespace Go.AL
structure TOK (T:List Tk):Prop where
 pos:0<T.length
 last:∀ (i:Nat) (t:Tk),T[i]?=some t→t.kind≠0→i+1<T.length
 sorted:∀ (i j:Nat) (a b:Tk),i≤j→T[i]?=some a→T[j]?=some b→a.pos≤b.pos
def Du(T:List Tk)(i:Nat):Int:=(T.getD i F6).pos
inductive Pl (T:List Tk):Nd→Prop where
 | mk (n:Nd) (h:∃ t∈T,t.pos=n.pos) (h1:∀ c∈n.kids,Pl T c) (h2:∀ c∈n.kids,n.pos≤c.pos) (h3:n.kids.length≤T.length+3) (h4:n.names.length≤T.length+3):Pl T n
structure Step (T:List Tk) (p q:PS):Prop where
 deep:q.deep=p.deep
 flat:q.flat=p.flat
 le:p.pos≤q.pos
 lt:q.pos<T.length
 err:p.e≠0→q=p
def Strict(p q:PS):Prop:=p.e=0→q.e=0→p.pos<q.pos
def NdInv(T:List Tk)(a:Int)(nd:Nd)(p:PS):Prop:=p.e=0→Pl T nd∧a≤nd.pos∧nd.pos≤Du T p.pos∧nd.kids.length≤p.pos+3∧nd.names.length≤p.pos+3
def Py(T:List Tk)(p:PS)(x:Option (Nd×PS)):Prop:=∃ nd q,x=some (nd,q)∧Step T p q∧Strict p q∧NdInv T (Du T p.pos) nd q
def Tot(T:List Tk)(m:Nat)(e:PM Nd):Prop:=∀ p:PS,p.pos<T.length→m≤p.deep→p.deep≤40→Py T p (e p)
def Fuel(T:List Tk)(n:Nat)(p:PS):Prop:=1≤n∧(p.e=0→T.length+1≤p.pos+n)
variable {T:List Tk}
theorem Step.refl{p:PS}(h:p.pos<T.length):Step T p p:=⟨rfl,rfl,Nat.le_refl _,h,fun _=>rfl⟩
theorem Step.trans{p q r:PS}(a:Step T p q)(b:Step T q r):Step T p r :=
 ⟨b.deep.trans a.deep,b.flat.trans a.flat,Nat.le_trans a.le b.le,b.lt,fun h=>by have:=a.err h;subst this;exact b.err h⟩
theorem Step.e0{p q:PS}(a:Step T p q)(h:q.e=0):p.e=0:=by
 by_cases c:p.e=0
 ·exact c
 ·have:=a.err c;subst this;exact h
theorem Strict.l{p q r:PS}(x:Strict p q)(b:Step T q r):Strict p r:=fun h1 h2=>Nat.lt_of_lt_of_le (x h1 (b.e0 h2)) b.le
theorem Strict.r{p q r:PS}(a:Step T p q)(b:Step T q r)(x:Strict q r):Strict p r:=fun h1 h2=>Nat.lt_of_le_of_lt a.le (x (b.e0 h2) h2)
theorem EU(hT:TOK T){i j:Nat}(h:i≤j)(hj:j<T.length):Du T i≤Du T j:=by
 have hi:i<T.length:=by omega
 have:=hT.sorted i j T[i] T[j] h (by simp[hi]) (by simp[hj]);simpa[Du,xgE,hi,hj] using this
theorem Zk{p:PS}(hp:p.pos<T.length):∃ t,zH T p=some t∧(p.e=0→T[p.pos]?=some t)∧(p.e≠0→t=F6):=by
 unfold zH;by_cases h:p.e=0
 ·exact⟨T[p.pos],by simp[h,hp],fun _=>by simp[hp],fun x=>absurd h x⟩
 ·exact⟨F6,by simp[h],fun x=>absurd x h,fun _=>rfl⟩
theorem Qs{p:PS}{t:Tk}(h:T[p.pos]?=some t):t.pos=Du T p.pos∧t∈T:=by
 obtain⟨h1,h2⟩:=List.getElem?_eq_some_iff.1 h;subst h2;exact⟨by simp[Du,xgE,h1],List.getElem_mem h1⟩
theorem QO(hT:TOK T){p:PS}(hp:p.pos<T.length){t:Tk}(ht:zH T p=some t) :
  ∃ q,ZR T p=some (t,q)∧Step T p q∧q.e=p.e∧(t.kind≠0→p.e=0∧q.pos=p.pos+1)∧(t.kind=0→q=p):=by
 obtain⟨t',h1,h2,h3⟩:=Zk hp;obtain rfl:t'=t:=by rw[h1] at ht;exact Option.some.inj ht
 unfold ZR;rw[h1];simp only[xmS];by_cases he:p.e=0
 ·by_cases hk:t'.kind≠0
  ·exact⟨{ p with pos:=p.pos+1 },by simp[he,hk],⟨rfl,rfl,by simp,hT.last _ _ (h2 he) hk,fun x=>absurd he x⟩,rfl,fun _=>⟨he,rfl⟩,fun x=>absurd x hk⟩
  ·have hk:=Classical.not_not.1 hk;exact⟨p,by simp[hk],.refl hp,rfl,fun x=>absurd hk x,fun _=>rfl⟩
 ·have hk:t'.kind=0:=by rw[h3 he];rfl
  exact⟨p,by simp[hk],.refl hp,rfl,fun x=>absurd hk x,fun _=>rfl⟩
theorem Yo{t:Tk}{s:Tx}(h:isT t s=true):t.kind≠0:=by
 unfold isT at h;simp only[XT,Bool.or_eq_true,beq_iff_eq] at h;omega
theorem UN{p:PS}(hp:p.pos<T.length)(s:Tx):∃ b,Yj T s p=some b∧(b=true→p.e=0):=by
 obtain⟨t,h1,h2,h3⟩:=Zk hp;refine⟨isT t s,by unfold Yj;rw[h1];rfl,fun hb=>?_⟩;by_cases he:p.e=0
 ·exact he
 ·exact absurd (by rw[h3 he];rfl) (Yo hb)
theorem V7(hT:TOK T){p:PS}(hp:p.pos<T.length)(s:Tx):∃ b q,Xd T s p=some (b,q)∧Step T p q∧q.e=p.e∧(b=true→p.e=0∧q.pos=p.pos+1)∧(b=false→q=p):=by
 obtain⟨t,h1,h2,h3⟩:=Zk hp;obtain⟨q,h4,h5,h6,h7,h8⟩:=QO hT hp h1;unfold Xd Yj;rw[h1];simp only[xmS,xbS];cases hb:isT t s with
 | true=>exact⟨true,q,by simp[h4],h5,h6,fun _=>h7 (Yo hb),fun x=>by cases x⟩
 | false=>exact⟨false,p,by simp,.refl hp,rfl,fun x=>(by cases x),fun _=>rfl⟩
theorem W8{p:PS}(hp:p.pos<T.length){e:Int}(he:e≠0):∃ q,Zq T e p=some q∧Step T p q∧q.e≠0:=by
 unfold Zq;by_cases h:p.e=0
 ·refine⟨{ p with bad:=T[p.pos].pos,e:=e },by simp[h,hp],⟨rfl,rfl,Nat.le_refl _,hp,fun x=>absurd h x⟩,he⟩
 ·exact⟨p,by simp[h],.refl hp,h⟩
theorem Qv(hT:TOK T){p:PS}(hp:p.pos<T.length)(s:Tx):∃ q,qy T s p=some q∧Step T p q∧Strict p q:=by
 obtain⟨b,q,h1,h2,h3,h4,h5⟩:=V7 hT hp s;unfold qy;rw[h1];simp only[xbS];cases b with
 | true=>exact⟨q,by simp,h2,fun _ _=>by have:=(h4 rfl).2;omega⟩
 | false =>
  obtain⟨r,h6,h7,h8⟩:=W8 (T:=T) h2.lt (e:=14) (by decide);exact⟨r,by simp[h6],h2.trans h7,fun _ h=>absurd h h8⟩
theorem Kr(hT:TOK T){p:PS}(hp:p.pos<T.length){k:Int}(hk:k≠0):∃ t q,Qy T k p=some (t,q)∧Step T p q∧Strict p q∧(q.e=0→t.pos=Du T p.pos∧t∈T∧t.kind=k):=by
 obtain⟨t,h1,h2,h3⟩:=Zk hp;unfold Qy;rw[h1];simp only[xbS];by_cases h:t.kind=k
 ·obtain⟨q,h4,h5,h6,h7,h8⟩:=QO hT hp h1;exact⟨t,q,by simp[h,h4],h5,fun _ _=>by have:=(h7 (by omega)).2;omega,fun x=>by
   have:=Qs (h2 (h5.e0 x));exact⟨this.1,this.2,h⟩⟩
 ·obtain⟨r,h6,h7,h8⟩:=W8 (T:=T) hp (e:=14) (by decide);obtain⟨t',g1,g2,g3⟩:=Zk h7.lt;obtain⟨q,h4,h5,h9,_,_⟩:=QO hT h7.lt g1;exact⟨t',q,by simp[h,h6,h4],h7.trans h5,fun _ x=>absurd (h5.e0 x) h8,fun x=>absurd (h5.e0 x) h8⟩
theorem WV{p:PS}(hp:p.pos<T.length)(n m:Int):∃ q,ZO T n m p=some q∧Step T p q:=by
 unfold ZO;split
 ·obtain⟨q,h1,h2,_⟩:=W8 (T:=T) hp (e:=16) (by decide);exact⟨q,h1,h2⟩
 ·exact⟨p,rfl,.refl hp⟩
theorem jG{p q:PS}{nd:Nd}(h:Step T p q)(he:q.e≠0):Py T p (some (nd,q)):=⟨nd,q,rfl,h,fun _ x=>absurd x he,fun x=>absurd x he⟩
theorem LS{k a:Int}{s:Tx}{kids:List Nd}(h:∃ t∈T,t.pos=a)(hk:∀ c∈kids,Pl T c∧a≤c.pos)(hl:kids.length≤T.length+3):Pl T (zw k a s kids) :=
 .mk _ h (fun c hc=>(hk c hc).1) (fun c hc=>(hk c hc).2) hl (by simp[zw,Nd.names])
theorem Pl.at{n:Nd}(h:Pl T n):∃ t∈T,t.pos=n.pos:=by cases h;assumption
theorem Pl.sub{n:Nd}(h:Pl T n):∀ c∈n.kids,Pl T c∧n.pos≤c.pos:=by
 cases h with
 | mk _ h h1 h2 h3 h4=>exact fun c hc=>⟨h1 c hc,h2 c hc⟩
theorem Pl.small{n:Nd}(h:Pl T n):n.kids.length≤T.length+3∧n.names.length≤T.length+3:=by
 cases h with
 | mk _ h h1 h2 h3 h4=>exact⟨h3,h4⟩
theorem lE{n:Nd}(h:Pl T n){l:List Nd}(hl:∀ c∈l,Pl T c∧n.pos≤c.pos)(hb:n.kids.length+l.length≤T.length+3):Pl T (n.addKids l):=by
 have hs:=h.sub;have ha:=h.at;have hm:=h.small;cases n with
 | mk k t m a ns ks =>
  refine .mk _ ha (fun c hc=>?_) (fun c hc=>?_) (by simpa[Nd.addKids,Nd.kids] using hb) hm.2
  ·simp only[Nd.addKids,Nd.kids,List.mem_append] at hc;rcases hc with hc | hc
   ·exact (hs c hc).1
   ·exact (hl c hc).1
  ·simp only[Nd.addKids,Nd.kids,List.mem_append] at hc;rcases hc with hc | hc
   ·exact (hs c hc).2
   ·exact (hl c hc).2
theorem jX(n:Nd)(l:List Nd):(n.addKids l).kids=n.kids++l:=by cases n;rfl
theorem Fc(n:Nd)(l:List Nd):(n.addKids l).names=n.names:=by cases n;rfl
theorem Ht(n:Nd)(c:Tx):(n.addName c).kids=n.kids:=by cases n;rfl
theorem Ff(n:Nd)(c:Tx):(n.addName c).names=n.names++[c]:=by cases n;rfl
theorem mw(n c:Nd):n.addKid c=n.addKids [c]:=by cases n;rfl
theorem v8(n:Nd)(l:List Nd):(n.addKids l).pos=n.pos:=by cases n;rfl
theorem DB(n:Nd)(c:Tx):(n.addName c).pos=n.pos:=by cases n;rfl
theorem aq{n:Nd}(h:Pl T n)(c:Tx)(hb:n.names.length+1≤T.length+3):Pl T (n.addName c):=by
 have hs:=h.sub;have ha:=h.at;have hm:=h.small;cases n with
 | mk k t m a ns ks=>exact .mk _ ha (fun c hc=>(hs c hc).1) (fun c hc=>(hs c hc).2) hm.1 (by simpa[Nd.addName,Nd.names] using hb)
theorem NdInv.mono(hT:TOK T){a:Int}{nd:Nd}{p q:PS}(h:NdInv T a nd p)(s:Step T p q):NdInv T a nd q:=fun x=>by
 obtain⟨h1,h2,h3,h4,h5⟩:=h (s.e0 x);have:=s.le;exact⟨h1,h2,Int.le_trans h3 (EU hT s.le s.lt),by omega,by omega⟩
theorem NdInv.lo{a b:Int}{nd:Nd}{p:PS}(h:NdInv T a nd p)(hb:p.e=0→b≤a):NdInv T b nd p:=fun x=>⟨(h x).1,Int.le_trans (hb x) (h x).2.1,(h x).2.2⟩
theorem NdInv.lo'(hT:TOK T){nd:Nd}{p q r:PS}(h:NdInv T (Du T q.pos) nd r)(s:Step T p q):NdInv T (Du T p.pos) nd r:=h.lo fun _=>EU hT s.le s.lt
theorem NdInv.add(hT:TOK T){a:Int}{nd c:Nd}{p q:PS}(h:NdInv T a nd p)(s:Step T p q)(hx:Strict p q)(hc:NdInv T (Du T p.pos) c q):NdInv T a (nd.addKid c) q:=fun x=>by
 obtain⟨h1,h2,h3,h4,h5⟩:=h (s.e0 x);obtain⟨c1,c2,c3,_,_⟩:=hc x;have hlt:=hx (s.e0 x) x;have hq:=s.lt;rw[mw,v8,jX,Fc,xlA,List.length_singleton];refine⟨lE h1 ?_ (by rw[List.length_singleton];omega),h2,Int.le_trans h3 (EU hT s.le s.lt),by omega,by omega⟩;intro d hd;rw[List.mem_singleton.1 hd];exact⟨c1,Int.le_trans h3 c2⟩
theorem NdInv.node(hT:TOK T){a:Int}{k:Int}{s:Tx}{kids:List Nd}{t:Tk}{p q:PS}(st:Step T p q)(ht:q.e=0→t∈T∧t.pos=Du T p.pos)(ha:q.e=0→a≤Du T p.pos)(hk:q.e=0→∀ c∈kids,Pl T c∧Du T p.pos≤c.pos)(hl:kids.length≤3:=by simp) :
  NdInv T a (zw k t.pos s kids) q:=fun x=>by
 obtain⟨h1,h2⟩:=ht x;refine⟨LS ⟨t,h1,rfl⟩ (by rw[h2];exact hk x) (by omega),?_,?_,by show kids.length≤_;omega,by simp[zw,Nd.names]⟩
 ·show a≤t.pos;rw[h2];exact ha x
 ·show t.pos≤_;rw[h2];exact EU hT st.le st.lt
theorem Tot.at{m:Nat}{e:PM Nd}(h:Tot T m e){p:PS}(hp:p.pos<T.length)(h1:m≤p.deep)(h2:p.deep≤40):∃ nd q,e p=some (nd,q)∧Step T p q∧Strict p q∧NdInv T (Du T p.pos) nd q:=h p hp h1 h2
theorem Fuel.next{n:Nat}{p q:PS}(h:Fuel T (n+1) p)(hp:p.pos<T.length)(h0:p.e=0)(x:Strict p q):Fuel T n q:=by
 have h1:=h.2 h0;refine⟨by omega,fun hq=>?_⟩;have:=x h0 hq;omega
theorem Ej{p q:PS}:Fuel T (T.length+2) q:=⟨by omega,fun _=>by omega⟩
theorem Qt(hT:TOK T){m:Nat}{e:PM Nd}(he:Tot T (m+1) e):Tot T m (Yn T e):=by
 intro p hp h1 h2;unfold Yn;by_cases hd:40≤p.deep
 ·obtain⟨q,g1,g2,g3⟩:=W8 (T:=T) hp (e:=15) (by decide);rw[if_pos hd,g1];simp only[xbS];rw[if_pos g3];exact jG g2 g3
 ·rw[if_neg hd];simp only[xbS];by_cases h0:p.e=0
  ·rw[if_neg (by simp[h0])];obtain⟨nd,q,g1,g2,g3,g4⟩:=he { p with deep:=p.deep+1 } hp (by show m+1≤p.deep+1;omega) (by show p.deep+1≤40;omega);rw[g1];simp only[xbS];have gd:q.deep=p.deep+1:=g2.deep;rw[if_neg (by omega)];exact⟨nd,_,rfl,⟨by show q.deep-1=p.deep;omega,g2.flat,g2.le,g2.lt,fun x=>absurd h0 x⟩,g3,g4⟩
  ·rw[if_pos h0];exact jG (.refl hp) h0
theorem LD(hT:TOK T){m:Nat}{e:PM Nd}(he:Tot T (m+1) e):Tot T m (Yl T e):=by
 intro p hp h1 h2;unfold Yl;obtain⟨p1,e1,s1,x1⟩:=Qv hT hp [40];obtain⟨nd,p2,e2,s2,x2,r2⟩:=Qt hT he p1 s1.lt (by rw[s1.deep];exact h1) (by rw[s1.deep];exact h2);obtain⟨p3,e3,s3,x3⟩:=Qv hT s2.lt [41];simp only[e1,e2,e3,xbS,xmS];exact⟨nd,p3,rfl,s1.trans (s2.trans s3),x1.l (s2.trans s3),(r2.mono hT s3).lo' hT s1⟩
theorem wB(hT:TOK T){m:Nat}{kinds:List (Int×Int)}(hk:∀ q∈kinds,q.1≠0):Tot T m (Xc T kinds):=by
 intro p hp h1 h2;unfold Xc;obtain⟨t,g1,g2,g3⟩:=Zk hp;rw[g1];simp only[xbS];by_cases h:((kinds.find? fun q=>q.1==t.kind).map (·.2)).getD 0=0
 ·obtain⟨q,e1,s1,x1⟩:=W8 (T:=T) hp (e:=14) (by decide);rw[if_pos h,e1];exact jG s1 x1
 ·obtain⟨q,e1,s1,x1,y1,z1⟩:=QO hT hp g1;have hkd:t.kind≠0:=by
   intro h0;cases hf:kinds.find? fun q=>q.1==t.kind with
   | none=>rw[hf] at h;exact h rfl
   | some q =>
    have a:=List.find?_some hf;have b:=List.mem_of_find?_eq_some hf;simp only[beq_iff_eq] at a;exact hk q b (a.trans h0)
  rw[if_neg h,e1];have h0:=(y1 hkd).1;obtain⟨l1,l2⟩:=Qs (g2 h0);refine⟨_,q,rfl,s1,fun _ _=>by have:=(y1 hkd).2;omega,fun _=>⟨.mk _ ⟨t,l2,rfl⟩ (fun c hc=>by cases hc) (fun c hc=>by cases hc) (by simp[Nd.kids]) (by simp[Nd.names]),?_,?_,by simp[Nd.kids],by simp[Nd.names]⟩⟩
  ·show _≤t.pos;rw[l1];exact Int.le_refl _
  ·show t.pos≤_;rw[l1];exact EU hT s1.le s1.lt
def LOut(T:List Tk)(a:Int)(p:PS)(x:Option (Nd×PS)):Prop:=∃ nd q,x=some (nd,q)∧Step T p q∧NdInv T a nd q
theorem LOut.of{a:Int}{p p':PS}{x:Option (Nd×PS)}(s:Step T p p')(h:LOut T a p' x):LOut T a p x:=by
 obtain⟨nd,q,h1,h2,h3⟩:=h;exact⟨nd,q,h1,s.trans h2,h3⟩
theorem yg(hT:TOK T){m:Nat}{e:PM Nd}(he:Tot T (m+1) e){a:Int}:∀ (n:Nat) (nd:Nd) (p:PS),p.pos<T.length→m≤p.deep→p.deep≤40→Fuel T n p→NdInv T a nd p→LOut T a p (va T e n nd p)
 | 0,nd,p,_,_,_,hf,_=>absurd hf.1 (by omega)
 | n+1,nd,p,hp,h1,h2,hf,hn=>by
  unfold va;obtain⟨t,g1,g2,g3⟩:=Zk hp;rw[g1];simp only[xbS];by_cases h3:t.kind=3
  ·obtain⟨q,e1,s1,x1,y1,z1⟩:=QO hT hp g1;rw[if_pos h3,e1];simp only[xbS];have hk:t.kind≠0:=by omega
   have h0:=(y1 hk).1;have hx:Strict p q:=fun _ _=>by have:=(y1 hk).2;omega
   refine LOut.of s1 (yg hT he n _ q s1.lt (by rw[s1.deep];exact h1) (by rw[s1.deep];exact h2) (hf.next hp h0 hx) (hn.add hT s1 hx (.node hT s1 (fun _=>(Qs (g2 h0)).symm) (fun _=>Int.le_refl _) (fun _ c hc=>by cases hc))))
  ·rw[if_neg h3];obtain⟨b,e2,x2⟩:=UN hp [40];rw[e2];simp only[xbS];cases b with
   | true =>
    obtain⟨c,q,e3,s3,x3,r3⟩:=LD hT he p hp h1 h2;simp only[if_true,e3,xbS];exact LOut.of s3 (yg hT he n _ q s3.lt (by rw[s3.deep];exact h1) (by rw[s3.deep];exact h2) (hf.next hp (x2 rfl) x3) (hn.add hT s3 x3 r3))
   | false=>exact⟨nd,p,rfl,.refl hp,hn⟩
theorem Cs(hT:TOK T){m:Nat}{e:PM Nd}(he:Tot T (m+1) e):Tot T m (bQ T e):=by
 intro p hp h1 h2;unfold bQ;obtain⟨t,q,e1,s1,x1,y1⟩:=Kr hT hp (k:=3) (by decide);rw[e1];simp only[xbS];obtain⟨nd,r,e2,s2,r2⟩:=yg hT he (a:=Du T p.pos) (T.length+2) (zw 27 t.pos t.text []) q s1.lt (by rw[s1.deep];exact h1) (by rw[s1.deep];exact h2) (Ej (p:=p))
  (.node hT s1 (fun x=>⟨(y1 x).2.1,(y1 x).1⟩) (fun _=>Int.le_refl _) (fun _ c hc=>by cases hc))
 exact⟨nd,r,e2,s1.trans s2,x1.l s2,r2⟩
theorem Gb(hT:TOK T):∀ (n m:Nat),43≤m+n→Tot T m (F3 T n)
 | 0,m,h=>fun p hp h1 h2=>by omega
 | n+1,m,h=>Cs hT (Gb hT n (m+1) (by omega))
theorem xJ(hT:TOK T){m:Nat}{e:PM Nd}(he:Tot T (m+1) e){a:Int}:∀ (n:Nat) (more:Bool) (nd:Nd) (p:PS),p.pos<T.length→m≤p.deep→p.deep≤40→Fuel T n p→NdInv T a nd p→LOut T a p (U1 T e n more nd p)
 | 0,more,nd,p,_,_,_,hf,_=>absurd hf.1 (by omega)
 | n+1,more,nd,p,hp,h1,h2,hf,hn=>by
  unfold U1;by_cases hc:more=true∧p.e=0
  ·rw[if_pos hc];obtain⟨p1,e1,s1⟩:=WV (T:=T) hp nd.kids.length 4;obtain⟨c,p2,e2,s2,x2,r2⟩:=Qt hT he p1 s1.lt (by rw[s1.deep];exact h1) (by rw[s1.deep];exact h2);obtain⟨b,p3,e3,s3,y3,z3,_⟩:=V7 hT s2.lt [44];simp only[e1,e2,e3,xbS];have s12:=s1.trans s2;have s13:=s12.trans s3;refine LOut.of s13 (xJ hT he n b _ p3 s13.lt (by rw[s13.deep];exact h1) (by rw[s13.deep];exact h2) (hf.next hp hc.2 ((Strict.r s1 s2 x2).l s3)) ?_);exact (hn.add hT s12 (Strict.r s1 s2 x2) (r2.lo' hT s1)).mono hT s3
  ·rw[if_neg hc];exact⟨nd,p,rfl,.refl hp,hn⟩
theorem jf(hT:TOK T){m:Nat}{e:PM Nd}(he:Tot T (m+1) e):Tot T m (E8 T e):=by
 intro p hp h1 h2;unfold E8;obtain⟨t,p1,e1,s1,x1,y1⟩:=Kr hT hp (k:=4) (by decide);obtain⟨b,p2,e2,s2,y2,z2,_⟩:=V7 hT s1.lt [111,102];simp only[e1,e2,xbS];have s12:=s1.trans s2;have hn:NdInv T (Du T p.pos) (zw 26 t.pos t.text []) p2 :=.node hT s12 (fun x=>⟨(y1 (s2.e0 x)).2.1,(y1 (s2.e0 x)).1⟩) (fun _=>Int.le_refl _) (fun _ c hc=>by cases hc);cases b with
 | true =>
  obtain⟨nd,q,e3,s3,r3⟩:=xJ hT he (T.length+2) true _ p2 s2.lt (by rw[s12.deep];exact h1) (by rw[s12.deep];exact h2) (Ej (p:=p)) hn;exact⟨nd,q,e3,s12.trans s3,x1.l (s2.trans s3),r3⟩
 | false=>exact⟨_,p2,rfl,s12,x1.l s2,hn⟩
theorem LF(hT:TOK T){a:Int}:∀ (n:Nat) (nd:Nd) (p:PS),p.pos<T.length→Fuel T n p→NdInv T a nd p→LOut T a p (Qx T n nd p)
 | 0,nd,p,_,hf,_=>absurd hf.1 (by omega)
 | n+1,nd,p,hp,hf,hn=>by
  unfold Qx;obtain⟨t,g1,g2,g3⟩:=Zk hp;rw[g1];simp only[xbS];by_cases h3:t.kind=3
  ·have h0:p.e=0:=by
    by_cases c:p.e=0
    ·exact c
    ·rw[g3 c] at h3;cases h3
   obtain⟨p1,e1,s1⟩:=WV (T:=T) hp nd.names.length 4;obtain⟨t2,k1,k2,k3⟩:=Zk s1.lt;obtain⟨p2,e2,s2,x2,y2,z2⟩:=QO hT s1.lt k1;simp only[if_pos h3,e1,e2,xbS];have s12:=s1.trans s2;have hx:Strict p p2:=fun _ hq=>by
    have h5:=s2.e0 hq;have:p1=p:=by
     unfold ZO at e1;split at e1
     ·unfold Zq at e1;rw[if_pos h0,g2 h0] at e1;simp only[xmS,xsJ] at e1;subst e1;cases h5
     ·exact (Option.some.inj e1).symm
    subst this;have ht:t2=t:=by rw[g1] at k1;exact (Option.some.inj k1).symm
    subst ht;have:=(y2 (by omega)).2;omega
   refine LOut.of s12 (LF hT n _ p2 s12.lt (hf.next hp h0 hx) fun x=>?_);have:=hn.mono hT s12 x;have h5:=(hn (s12.e0 x)).2.2.2.2;have h6:=hx h0 x;have h7:=s12.lt;exact⟨aq this.1 _ (by omega),by rw[DB];exact this.2.1,by rw[DB];exact this.2.2.1,by rw[Ht];exact this.2.2.2.1,by rw[Ff,xlA,List.length_singleton];omega⟩
  ·rw[if_neg h3];exact⟨nd,p,rfl,.refl hp,hn⟩
theorem kV(hT:TOK T){m:Nat}{e:PM Nd}(he:Tot T (m+1) e){a:Int}:∀ (n:Nat) (more:Bool) (nd:Nd) (p:PS),p.pos<T.length→m≤p.deep→p.deep≤40→Fuel T n p→NdInv T a nd p→LOut T a p (YP T e n more nd p)
 | 0,more,nd,p,_,_,_,hf,_=>absurd hf.1 (by omega)
 | n+1,more,nd,p,hp,h1,h2,hf,hn=>by
  unfold YP;by_cases hc:more=true∧p.e=0
  ·rw[if_pos hc];obtain⟨p1,e1,s1⟩:=WV (T:=T) hp nd.kids.length 20;obtain⟨c,p2,e2,s2,x2,r2⟩:=jf hT he p1 s1.lt (by rw[s1.deep];exact h1) (by rw[s1.deep];exact h2);obtain⟨b,p3,e3,s3,y3,z3,_⟩:=V7 hT s2.lt [124];simp only[e1,e2,e3,xbS];have s12:=s1.trans s2;have s13:=s12.trans s3;refine LOut.of s13 (kV hT he n b _ p3 s13.lt (by rw[s13.deep];exact h1) (by rw[s13.deep];exact h2) (hf.next hp hc.2 ((Strict.r s1 s2 x2).l s3)) ?_);exact (hn.add hT s12 (Strict.r s1 s2 x2) (r2.lo' hT s1)).mono hT s3
  ·rw[if_neg hc];exact⟨nd,p,rfl,.refl hp,hn⟩
theorem wW(hT:TOK T){m:Nat}{e:PM Nd}(he:Tot T (m+1) e):Tot T m (QS T e):=by
 intro p hp h1 h2;unfold QS;obtain⟨t,g1,g2,g3⟩:=Zk hp;obtain⟨p1,e1,s1,y1,_,_⟩:=QO hT hp g1;obtain⟨u,p2,e2,s2,x2,y2⟩:=Kr hT s1.lt (k:=3) (by decide);simp only[e1,e2,xbS];have s12:=s1.trans s2;have hn:NdInv T (Du T p.pos) (zw 25 t.pos u.text []) p2 :=.node hT s12 (fun x=>(Qs (g2 (s12.e0 x))).symm) (fun _=>Int.le_refl _) (fun _ c hc=>by cases hc);obtain⟨nd,p3,e3,s3,r3⟩:=LF hT (T.length+2) _ p2 s2.lt (Ej (p:=p)) hn;obtain⟨p4,e4,s4,x4⟩:=Qv hT s3.lt [61];have s14:=(s12.trans s3).trans s4;obtain⟨nd2,p5,e5,s5,r5⟩:=kV hT he (T.length+2) true nd p4 s4.lt (by rw[s14.deep];exact h1) (by rw[s14.deep];exact h2) (Ej (p:=p)) (r3.mono hT s4);simp only[e3,e4,e5,xbS];exact⟨nd2,p5,rfl,s14.trans s5,(Strict.r s1 (s2.trans (s3.trans (s4.trans s5))) (x2.l (s3.trans (s4.trans s5)))),r5⟩
theorem Wo(hT:TOK T){m:Nat}{e:PM Nd}(he:Tot T (m+1) e):Tot T m (Qo T e):=by
 intro p hp h1 h2;unfold Qo;obtain⟨t,g1,g2,g3⟩:=Zk hp;obtain⟨b,p1,e1,s1,y1,z1,w1⟩:=V7 hT hp [95];simp only[g1,e1,xbS];cases b with
 | true =>
  refine⟨_,p1,rfl,s1,fun _ _=>by have:=(z1 rfl).2;omega,.node hT s1 (fun x=>(Qs (g2 (s1.e0 x))).symm) (fun _=>Int.le_refl _) (fun _ c hc=>by cases hc)⟩
 | false =>
  obtain rfl:=w1 rfl;obtain⟨b,e2,x2⟩:=UN hp [40];simp only[XU,if_false,e2,xbS];cases b with
  | true=>exact LD hT he _ hp h1 h2
  | false=>exact wB hT (m:=m) (by decide) _ hp h1 h2
theorem Br{p:PS}(hp:p.pos<T.length):∃ b,VV T p=some b∧(b=true→p.e=0):=by
 obtain⟨t,h1,h2,h3⟩:=Zk hp;refine⟨_,by unfold VV;rw[h1];rfl,fun hb=>?_⟩;by_cases he:p.e=0
 ·exact he
 ·rw[h3 he] at hb;exact absurd hb (by decide)
theorem xr(hT:TOK T){m:Nat}{e:PM Nd}(he:Tot T (m+1) e){a:Int}:∀ (n:Nat) (con:Bool) (nd:Nd) (p:PS),p.pos<T.length→m≤p.deep→p.deep≤40→Fuel T n p→NdInv T a nd p→LOut T a p (JO T e n con nd p)
 | 0,con,nd,p,_,_,_,hf,_=>absurd hf.1 (by omega)
 | n+1,con,nd,p,hp,h1,h2,hf,hn=>by
  unfold JO;cases con with
  | false=>exact⟨nd,p,rfl,.refl hp,hn⟩
  | true =>
   obtain⟨b,e0,x0⟩:=Br hp;simp only[if_true,e0,xbS];cases b with
   | false=>exact⟨nd,p,rfl,.refl hp,hn⟩
   | true =>
    obtain⟨p1,e1,s1⟩:=WV (T:=T) hp nd.kids.length 4;obtain⟨c,p2,e2,s2,x2,r2⟩:=Wo hT he p1 s1.lt (by rw[s1.deep];exact h1) (by rw[s1.deep];exact h2);simp only[if_true,e1,e2,xbS];have s12:=s1.trans s2;exact LOut.of s12 (xr hT he n true _ p2 s12.lt (by rw[s12.deep];exact h1) (by rw[s12.deep];exact h2) (hf.next hp (x0 rfl) (Strict.r s1 s2 x2)) (hn.add hT s12 (Strict.r s1 s2 x2) (r2.lo' hT s1)))
theorem oD(hT:TOK T){m:Nat}{e:PM Nd}(he:Tot T (m+1) e):Tot T m (HW T e):=by
 intro p hp h1 h2;unfold HW;obtain⟨t,g1,g2,g3⟩:=Zk hp;obtain⟨c,p1,e1,s1,x1,r1⟩:=Wo hT he p hp h1 h2;simp only[g1,e1,xbS];obtain⟨nd,p2,e2,s2,r2⟩:=xr hT he (T.length+2) (t.kind==4) c p1 s1.lt (by rw[s1.deep];exact h1) (by rw[s1.deep];exact h2) (Ej (p:=p)) r1;exact⟨nd,p2,e2,s1.trans s2,x1.l s2,r2⟩
theorem HR(hT:TOK T):∀ (n m:Nat),43≤m+n→Tot T m (Qq T n)
 | 0,m,h=>fun p hp h1 h2=>by omega
 | n+1,m,h=>oD hT (HR hT n (m+1) (by omega))
theorem Xr(hT:TOK T){m:Nat}{e:PM Nd}(he:Tot T (m+1) e):Tot T m (Q4 T e):=by
 intro p hp h1 h2;unfold Q4;obtain⟨nd,q,e1,s1,x1,r1⟩:=Qt hT he { p with flat:=false } hp h1 h2;rw[e1];exact⟨nd,_,rfl,⟨s1.deep,rfl,s1.le,s1.lt,fun h=>by rw[s1.err h]⟩,x1,r1⟩
theorem FZ(hT:TOK T){m:Nat}{e pt:PM Nd}(he:Tot T (m+1) e)(ht:Tot T (m+1) pt){a:Int}(nd:Nd)(p:PS)(hp:p.pos<T.length)(h1:m≤p.deep)(h2:p.deep≤40)(hn:NdInv T a nd p) :
  ∃ p1 p2 c p3 p4 w q,ZO T (Int.tdiv nd.kids.length 2) 20 p=some p1∧qy T [124] p1=some p2∧Yn T pt p2=some (c,p3)∧qy T [45,62] p3=some p4∧Q4 T e p4=some (w,q)∧Step T p q∧Strict p q∧NdInv T a (nd.addKids [c,w]) q:=by
 obtain⟨p1,e1,s1⟩:=WV (T:=T) hp (Int.tdiv nd.kids.length 2) 20;obtain⟨p2,e2,s2,x2⟩:=Qv hT s1.lt [124];have s12:=s1.trans s2;obtain⟨c,p3,e3,s3,x3,r3⟩:=Qt hT ht p2 s2.lt (by rw[s12.deep];exact h1) (by rw[s12.deep];exact h2);obtain⟨p4,e4,s4,x4⟩:=Qv hT s3.lt [45,62];have s14:=s12.trans (s3.trans s4);obtain⟨w,p5,e5,s5,x5,r5⟩:=Xr hT he p4 s4.lt (by rw[s14.deep];exact h1) (by rw[s14.deep];exact h2);refine⟨p1,p2,c,p3,p4,w,p5,e1,e2,e3,e4,e5,s14.trans s5,(Strict.r s1 s2 x2).l (s3.trans (s4.trans s5)),?_⟩;have k1:=hn.add hT (s12.trans s3) (Strict.r s12 s3 x3) (r3.lo' hT s12);have k2:=k1.add hT (s4.trans s5) (Strict.r s4 s5 x5) (r5.lo' hT s4);have:nd.addKids [c,w]=(nd.addKid c).addKid w:=by cases nd;simp[Nd.addKids,Nd.addKid]
 rw[this];exact k2
theorem Lo(hT:TOK T){m:Nat}{e pt:PM Nd}(he:Tot T (m+1) e)(ht:Tot T (m+1) pt){a:Int}:∀ (n:Nat) (nd:Nd) (p:PS),p.pos<T.length→m≤p.deep→p.deep≤40→Fuel T n p→NdInv T a nd p→LOut T a p (QR T e pt n false nd p)
 | 0,nd,p,_,_,_,hf,_=>absurd hf.1 (by omega)
 | n+1,nd,p,hp,h1,h2,hf,hn=>by
  unfold QR;obtain⟨b,e0,x0⟩:=UN hp [124];simp only[XU,if_false,e0,xbS];cases b with
  | false=>exact⟨nd,p,rfl,.refl hp,hn⟩
  | true =>
   obtain⟨p1,p2,c,p3,p4,w,q,e1,e2,e3,e4,e5,s,x,r⟩:=FZ hT he ht nd p hp h1 h2 hn;simp only[if_true,e1,e2,e3,e4,e5,xbS];exact LOut.of s (Lo hT he ht n _ q s.lt (by rw[s.deep];exact h1) (by rw[s.deep];exact h2) (hf.next hp (x0 rfl) x) r)
theorem xo(hT:TOK T){m:Nat}{e pt:PM Nd}(he:Tot T (m+1) e)(ht:Tot T (m+1) pt){a:Int}(nd:Nd)(p:PS)(hp:p.pos<T.length)(h1:m≤p.deep)(h2:p.deep≤40)(hn:NdInv T a nd p):LOut T a p (QR T e pt (T.length+2) true nd p):=by
 unfold QR;obtain⟨p1,p2,c,p3,p4,w,q,e1,e2,e3,e4,e5,s,x,r⟩:=FZ hT he ht nd p hp h1 h2 hn;simp only[if_true,e1,e2,e3,e4,e5,xbS];refine LOut.of s (Lo hT he ht (T.length+1) _ q s.lt (by rw[s.deep];exact h1) (by rw[s.deep];exact h2) ⟨by omega,fun h0=>by have:=x (s.e0 h0) h0;omega⟩ r)
theorem pJ(hT:TOK T){m:Nat}{e pt:PM Nd}(he:Tot T (m+1) e)(ht:Tot T (m+1) pt):Tot T m (Y1 T e pt):=by
 intro p hp h1 h2;unfold Y1;obtain⟨t,g1,g2,g3⟩:=Zk hp;obtain⟨p1,e1,s1,y1,_,_⟩:=QO hT hp g1;obtain⟨w,p2,e2,s2,x2,r2⟩:=Xr hT he p1 s1.lt (by rw[s1.deep];exact h1) (by rw[s1.deep];exact h2);have s12:=s1.trans s2;obtain⟨p3,e3,s3,x3⟩:=Qv hT s2.lt [119,105,116,104];have s13:=s12.trans s3;have hn:NdInv T (Du T p.pos) (zw 11 t.pos [] [w]) p3 :=.node hT s13 (fun x=>(Qs (g2 (s13.e0 x))).symm) (fun _=>Int.le_refl _) (fun x c hc=>by
  rw[List.mem_singleton.1 hc];have:=(r2.lo' hT s1) (s3.e0 x);exact⟨this.1,this.2.1⟩)
 obtain⟨nd,p4,e4,s4,r4⟩:=xo hT he ht _ p3 s3.lt (by rw[s13.deep];exact h1) (by rw[s13.deep];exact h2) hn;obtain⟨p5,e5,s5,x5⟩:=Qv hT s4.lt [101,110,100];simp only[e1,e2,e3,e4,e5,xbS,xmS];exact⟨nd,p5,rfl,s13.trans (s4.trans s5),Strict.r s1 (s2.trans (s3.trans (s4.trans s5))) (x2.l (s3.trans (s4.trans s5))),r4.mono hT s5⟩
theorem ed(hT:TOK T){m:Nat}{e:PM Nd}(he:Tot T (m+1) e):Tot T m (Hm T e):=by
 intro p hp h1 h2;unfold Hm;obtain⟨t,g1,g2,g3⟩:=Zk hp;obtain⟨p1,e1,s1,y1,_,_⟩:=QO hT hp g1;obtain⟨w,p2,e2,s2,x2,r2⟩:=Xr hT he p1 s1.lt (by rw[s1.deep];exact h1) (by rw[s1.deep];exact h2);obtain⟨p3,e3,s3,x3⟩:=Qv hT s2.lt [119,105,116,104];obtain⟨u,p4,e4,s4,x4,y4⟩:=Kr hT s3.lt (k:=3) (by decide);obtain⟨p5,e5,s5,x5⟩:=Qv hT s4.lt [45,62];have s15:=(s1.trans s2).trans (s3.trans (s4.trans s5));obtain⟨v,p6,e6,s6,x6,r6⟩:=Xr hT he p5 s5.lt (by rw[s15.deep];exact h1) (by rw[s15.deep];exact h2);obtain⟨p7,e7,s7,x7⟩:=Qv hT s6.lt [101,110,100];simp only[e1,e2,e3,e4,e5,e6,e7,xbS,xmS];have s17:=s15.trans (s6.trans s7);have s27:=s3.trans (s4.trans (s5.trans (s6.trans s7)));refine⟨_,p7,rfl,s17,Strict.r s1 (s2.trans s27) (x2.l s27),.node hT s17 (fun x=>(Qs (g2 (s17.e0 x))).symm) (fun _=>Int.le_refl _) (fun x c hc=>?_)⟩;simp only[List.mem_cons,List.not_mem_nil,or_false] at hc;rcases hc with rfl | rfl
 ·have:=(r2.lo' hT s1) (s27.e0 x);exact⟨this.1,this.2.1⟩
 ·have:=(r6.lo' hT s15) (s7.e0 x);exact⟨this.1,this.2.1⟩
theorem XV(hT:TOK T){m:Nat}{e pt:PM Nd}(he:Tot T (m+1) e)(ht:Tot T (m+1) pt):Tot T m (ZL T e pt):=by
 intro p hp h1 h2;unfold ZL;obtain⟨t,g1,g2,g3⟩:=Zk hp;rw[g1];simp only[xbS];split
 ·exact pJ hT he ht p hp h1 h2
 split
 ·exact ed hT he p hp h1 h2
 obtain⟨p1,e1,s1,y1,z1,_⟩:=QO hT hp g1;split
 ·rename_i hk;rw[e1];exact⟨_,p1,rfl,s1,fun _ _=>by have:=(z1 (Yo hk)).2;omega,.node hT s1 (fun x=>(Qs (g2 (s1.e0 x))).symm) (fun _=>Int.le_refl _) (fun _ c hc=>by cases hc)⟩
 split
 ·rename_i hk;obtain⟨b,p2,e2,s2,y2,z2,_⟩:=V7 hT s1.lt [41];simp only[e1,e2,xbS];have s12:=s1.trans s2;have hx:Strict p p1:=fun _ _=>by have:=(z1 (Yo hk)).2;omega
  cases b with
  | true=>exact⟨_,p2,rfl,s12,hx.l s2,.node hT s12 (fun x=>(Qs (g2 (s12.e0 x))).symm) (fun _=>Int.le_refl _) (fun _ c hc=>by cases hc)⟩
  | false =>
   obtain⟨w,p3,e3,s3,x3,r3⟩:=Xr hT he p2 s2.lt (by rw[s12.deep];exact h1) (by rw[s12.deep];exact h2);obtain⟨p4,e4,s4,x4⟩:=Qv hT s3.lt [41];simp only[XU,if_false,e3,e4,xbS,xmS];exact⟨w,p4,rfl,s12.trans (s3.trans s4),hx.l (s2.trans (s3.trans s4)),(r3.lo' hT s12).mono hT s4⟩
 ·exact wB hT (m:=m) (by decide) p hp h1 h2
theorem F7(hT:TOK T){m:Nat}{e pt:PM Nd}(he:Tot T (m+1) e)(ht:Tot T (m+1) pt){a:Int}:∀ (n:Nat) (nd:Nd) (p:PS),p.pos<T.length→m≤p.deep→p.deep≤40→NdInv T a nd p→LOut T a p (Xl T e pt n nd p)
 | 0,nd,p,hp,_,_,hn=>⟨nd,p,rfl,.refl hp,hn⟩
 | n+1,nd,p,hp,h1,h2,hn=>by
  unfold Xl;obtain⟨c,p1,e1,s1,x1,r1⟩:=XV hT he ht p hp h1 h2;rw[e1];simp only[xbS];exact LOut.of s1 (F7 hT he ht n _ p1 s1.lt (by rw[s1.deep];exact h1) (by rw[s1.deep];exact h2) (hn.add hT s1 x1 r1))
theorem NdInv.bin(hT:TOK T){a:Int}{k:Int}{s:Tx}{nd c:Nd}{p q:PS}(hn:NdInv T a nd p)(st:Step T p q)(hc:NdInv T (Du T p.pos) c q):NdInv T a (zw k nd.pos s [nd,c]) q:=fun x=>by
 obtain⟨h1,h2,h3,_,_⟩:=hn (st.e0 x);obtain⟨c1,c2,c3,_,_⟩:=hc x;refine⟨LS h1.at ?_ (by simp),h2,Int.le_trans h3 (EU hT st.le st.lt),by simp[zw,Nd.kids],by simp[zw,Nd.names]⟩;intro d hd;simp only[List.mem_cons,List.not_mem_nil,or_false] at hd;rcases hd with rfl | rfl
 ·exact⟨h1,Int.le_refl _⟩
 ·exact⟨c1,Int.le_trans h3 c2⟩
theorem vU{t:Tk}(h:qI t=true):t.kind≠0:=by
 intro h0;unfold qI isT at h;simp[h0] at h
theorem jq(hT:TOK T){m:Nat}{e pt:PM Nd}(he:Tot T (m+1) e)(ht:Tot T (m+1) pt){a:Int}:∀ (n:Nat) (bare:Bool) (nd:Nd) (p:PS),p.pos<T.length→m≤p.deep→p.deep≤40→Fuel T n p→NdInv T a nd p→LOut T a p (Yp T e pt n bare nd p)
 | 0,bare,nd,p,_,_,_,hf,_=>absurd hf.1 (by omega)
 | n+1,bare,nd,p,hp,h1,h2,hf,hn=>by
  unfold Yp;obtain⟨t,g1,g2,g3⟩:=Zk hp;rw[g1];simp only[xbS];split
  ·rename_i hb;have h0:p.e=0:=by
    by_cases c:p.e=0
    ·exact c
    ·exact absurd (by rw[g3 c];rfl) (vU hb)
   cases bare with
   | true =>
    obtain⟨p1,e1,s1⟩:=WV (T:=T) hp nd.kids.length 4;obtain⟨c,p2,e2,s2,x2,r2⟩:=XV hT he ht p1 s1.lt (by rw[s1.deep];exact h1) (by rw[s1.deep];exact h2);simp only[if_true,e1,e2,xbS];have s12:=s1.trans s2;exact LOut.of s12 (jq hT he ht n true _ p2 s12.lt (by rw[s12.deep];exact h1) (by rw[s12.deep];exact h2) (hf.next hp h0 (Strict.r s1 s2 x2)) (hn.add hT s12 (Strict.r s1 s2 x2) (r2.lo' hT s1)))
   | false =>
    obtain⟨c,p2,e2,s2,x2,r2⟩:=XV hT he ht p hp h1 h2;simp only[XU,if_false,e2,xbS];exact LOut.of s2 (jq hT he ht n false _ p2 s2.lt (by rw[s2.deep];exact h1) (by rw[s2.deep];exact h2) (hf.next hp h0 x2) (hn.bin hT s2 r2))
  ·exact⟨nd,p,rfl,.refl hp,hn⟩
theorem j0(hT:TOK T){m:Nat}{e pt:PM Nd}(he:Tot T (m+1) e)(ht:Tot T (m+1) pt):Tot T m (Jf T e pt):=by
 intro p hp h1 h2;unfold Jf;obtain⟨t,g1,g2,g3⟩:=Zk hp;rw[g1];simp only[xbS];split
 ·rename_i hk;obtain⟨p1,e1,s1,y1,z1,_⟩:=QO hT hp g1;rw[e1];simp only[xbS];obtain⟨nd,p2,e2,s2,r2⟩:=F7 hT he ht (a:=Du T p.pos) (qJ t.text).2.toNat (zw (qJ t.text).1 t.pos [] []) p1 s1.lt (by rw[s1.deep];exact h1) (by rw[s1.deep];exact h2)
   (.node hT s1 (fun x=>(Qs (g2 (s1.e0 x))).symm) (fun _=>Int.le_refl _) (fun _ c hc=>by cases hc))
  have hx:Strict p p1:=fun _ _=>by have:=(z1 (by omega)).2;omega
  exact⟨nd,p2,e2,s1.trans s2,hx.l s2,r2⟩
 ·obtain⟨c,p1,e1,s1,x1,r1⟩:=XV hT he ht p hp h1 h2;rw[e1];simp only[xbS];obtain⟨nd,p2,e2,s2,r2⟩:=jq hT he ht (T.length+2) (t.kind==4) c p1 s1.lt (by rw[s1.deep];exact h1) (by rw[s1.deep];exact h2) (Ej (p:=p)) r1;exact⟨nd,p2,e2,s1.trans s2,x1.l s2,r2⟩
theorem vd(hT:TOK T){m:Nat}{part:PM Nd}{signs:List Tx}(he:Tot T m part){a:Int}:∀ (n:Nat) (t:Tk) (nd:Nd) (p:PS),zH T p=some t→p.pos<T.length→m≤p.deep→p.deep≤40→Fuel T n p→NdInv T a nd p→LOut T a p (JW T part signs n t nd p)
 | 0,t,nd,p,_,_,_,_,hf,_=>absurd hf.1 (by omega)
 | n+1,t,nd,p,ht,hp,h1,h2,hf,hn=>by
  unfold JW;split
  ·rename_i hk;obtain⟨p1,e1,s1,y1,z1,_⟩:=QO hT hp ht;obtain⟨c,p2,e2,s2,x2,r2⟩:=he p1 s1.lt (by rw[s1.deep];exact h1) (by rw[s1.deep];exact h2);obtain⟨t',g1,_,_⟩:=Zk s2.lt;simp only[e1,e2,g1,xbS];have s12:=s1.trans s2;have hz:=z1 (by omega);have hx:Strict p p1:=fun _ _=>by omega
   exact LOut.of s12 (vd hT he n t' _ p2 g1 s12.lt (by rw[s12.deep];exact h1) (by rw[s12.deep];exact h2) (hf.next hp hz.1 (hx.l s2)) (hn.bin hT s12 (r2.lo' hT s1)))
  ·exact⟨nd,p,rfl,.refl hp,hn⟩
theorem GX(hT:TOK T){m:Nat}{part:PM Nd}{signs:List Tx}(he:Tot T m part):Tot T m (JV T part signs):=by
 intro p hp h1 h2;unfold JV;obtain⟨c,p1,e1,s1,x1,r1⟩:=he p hp h1 h2;obtain⟨t,g1,_,_⟩:=Zk s1.lt;simp only[e1,g1,xbS];obtain⟨nd,p2,e2,s2,r2⟩:=vd hT he (signs:=signs) (T.length+2) t c p1 g1 s1.lt (by rw[s1.deep];exact h1) (by rw[s1.deep];exact h2) (Ej (p:=p)) r1;exact⟨nd,p2,e2,s1.trans s2,x1.l s2,r2⟩
theorem Gh(hT:TOK T){m:Nat}{e pt:PM Nd}(he:Tot T (m+1) e)(ht:Tot T (m+1) pt):Tot T m (EK T e pt):=GX hT (GX hT (j0 hT he ht))
theorem pn(hT:TOK T){m:Nat}{e pt:PM Nd}(he:Tot T (m+1) e)(ht:Tot T (m+1) pt):Tot T m (Wn T e pt):=by
 intro p hp h1 h2;unfold Wn;obtain⟨c,p1,e1,s1,x1,r1⟩:=Gh hT he ht p hp h1 h2;obtain⟨t,g1,_,_⟩:=Zk s1.lt;simp only[e1,g1,xbS];split
 ·obtain⟨p2,e2,s2,_⟩:=QO hT s1.lt g1;have s12:=s1.trans s2;obtain⟨d,p3,e3,s3,x3,r3⟩:=Gh hT he ht p2 s2.lt (by rw[s12.deep];exact h1) (by rw[s12.deep];exact h2);simp only[e2,e3,xbS,xmS];exact⟨_,p3,rfl,s12.trans s3,x1.l (s2.trans s3),r1.bin hT (s2.trans s3) (r3.lo' hT s2)⟩
 ·exact⟨c,p1,rfl,s1,x1,r1⟩
theorem kK(hT:TOK T){m:Nat}{e:PM Nd}(he:Tot T (m+1) e){p:PS}(hp:p.pos<T.length)(h1:m≤p.deep)(h2:p.deep≤40) :
  ∃ nm rec nd q,Q2 T e p=some ((nm,rec,nd),q)∧Step T p q∧Strict p q∧NdInv T (Du T p.pos) nd q:=by
 unfold Q2;obtain⟨b,p1,e1,s1,_⟩:=V7 hT hp [114,101,99];obtain⟨t,p2,e2,s2,x2,_⟩:=Kr hT s1.lt (k:=3) (by decide);obtain⟨p3,e3,s3,x3⟩:=Qv hT s2.lt [61];simp only[e1,e2,e3,xbS];have s13:=s1.trans (s2.trans s3);obtain⟨p4,e4,s4⟩:∃ p4,(if b=true∧p3.deep<40 then (Yj T [102,117,110] p3).bind fun b=>if b then some p3 else Zq T 14 p3 else some p3)=some p4∧Step T p3 p4:=by
  split
  ·obtain⟨c,f1,_⟩:=UN s3.lt [102,117,110];rw[f1];simp only[xbS];split
   ·exact⟨p3,rfl,.refl s3.lt⟩
   ·obtain⟨q,f2,f3,_⟩:=W8 (T:=T) s3.lt (e:=14) (by decide);exact⟨q,f2,f3⟩
  ·exact⟨p3,rfl,.refl s3.lt⟩
 have s14:=s13.trans s4;obtain⟨nd,p5,e5,s5,x5,r5⟩:=Qt hT he p4 s4.lt (by rw[s14.deep];exact h1) (by rw[s14.deep];exact h2);simp only[e4,e5,xbS,xmS];exact⟨_,_,nd,p5,rfl,s14.trans s5,Strict.r s14 s5 x5,r5.lo' hT s14⟩
theorem aj(hT:TOK T){m:Nat}{e:PM Nd}(he:Tot T (m+1) e):Tot T m (B9 T e):=by
 intro p hp h1 h2;unfold B9;obtain⟨t,g1,g2,g3⟩:=Zk hp;obtain⟨p1,e1,s1,y1,_,_⟩:=QO hT hp g1;obtain⟨nm,rec,v,p2,e2,s2,x2,r2⟩:=kK hT he s1.lt (by rw[s1.deep];exact h1) (by rw[s1.deep];exact h2);obtain⟨p3,e3,s3,x3⟩:=Qv hT s2.lt [105,110];have s13:=s1.trans (s2.trans s3);obtain⟨u,p4,e4,s4,x4,r4⟩:=Qt hT he p3 s3.lt (by rw[s13.deep];exact h1) (by rw[s13.deep];exact h2);simp only[e1,e2,e3,e4,xbS,xmS];have s14:=s13.trans s4;refine⟨_,p4,rfl,s14,Strict.r s13 s4 x4,.node hT s14 (fun x=>(Qs (g2 (s14.e0 x))).symm) (fun _=>Int.le_refl _) (fun x c hc=>?_)⟩;simp only[List.mem_cons,List.not_mem_nil,or_false] at hc;rcases hc with rfl | rfl
 ·have:=(r2.lo' hT s1) ((s3.trans s4).e0 x);exact⟨this.1,this.2.1⟩
 ·have:=(r4.lo' hT s13) x;exact⟨this.1,this.2.1⟩
theorem lY(hT:TOK T){m:Nat}{e:PM Nd}(he:Tot T (m+1) e):Tot T m (Fl T e):=by
 intro p hp h1 h2;unfold Fl;obtain⟨t,g1,g2,g3⟩:=Zk hp;obtain⟨p1,e1,s1,y1,_,_⟩:=QO hT hp g1;obtain⟨t2,p2,e2,s2,x2,_⟩:=Kr hT s1.lt (k:=3) (by decide);obtain⟨p3,e3,s3,x3⟩:=Qv hT s2.lt [45,62];have s13:=s1.trans (s2.trans s3);obtain⟨u,p4,e4,s4,x4,r4⟩:=Qt hT he p3 s3.lt (by rw[s13.deep];exact h1) (by rw[s13.deep];exact h2);simp only[e1,e2,e3,e4,xbS,xmS];have s14:=s13.trans s4;refine⟨_,p4,rfl,s14,Strict.r s13 s4 x4,.node hT s14 (fun x=>(Qs (g2 (s14.e0 x))).symm) (fun _=>Int.le_refl _) (fun x c hc=>?_)⟩;rw[List.mem_singleton.1 hc];have:=(r4.lo' hT s13) x;exact⟨this.1,this.2.1⟩
theorem yY(hT:TOK T){m:Nat}{e:PM Nd}(he:Tot T (m+1) e):Tot T m (JD T e):=by
 intro p hp h1 h2;unfold JD;obtain⟨t,g1,g2,g3⟩:=Zk hp;obtain⟨p1,e1,s1,y1,_,_⟩:=QO hT hp g1;obtain⟨c,p2,e2,s2,x2,r2⟩:=Qt hT he p1 s1.lt (by rw[s1.deep];exact h1) (by rw[s1.deep];exact h2);obtain⟨p3,e3,s3,x3⟩:=Qv hT s2.lt [116,104,101,110];have s13:=s1.trans (s2.trans s3);obtain⟨a,p4,e4,s4,x4,r4⟩:=Qt hT he p3 s3.lt (by rw[s13.deep];exact h1) (by rw[s13.deep];exact h2);obtain⟨p5,e5,s5,x5⟩:=Qv hT s4.lt [101,108,115,101];have s15:=s13.trans (s4.trans s5);obtain⟨b,p6,e6,s6,x6,r6⟩:=Qt hT he p5 s5.lt (by rw[s15.deep];exact h1) (by rw[s15.deep];exact h2);simp only[e1,e2,e3,e4,e5,e6,xbS,xmS];have s16:=s15.trans s6;refine⟨_,p6,rfl,s16,Strict.r s15 s6 x6,.node hT s16 (fun x=>(Qs (g2 (s16.e0 x))).symm) (fun _=>Int.le_refl _) (fun x d hd=>?_)⟩;simp only[List.mem_cons,List.not_mem_nil,or_false] at hd;rcases hd with rfl | rfl | rfl
 ·have:=(r2.lo' hT s1) ((s3.trans (s4.trans (s5.trans s6))).e0 x);exact⟨this.1,this.2.1⟩
 ·have:=(r4.lo' hT s13) ((s5.trans s6).e0 x);exact⟨this.1,this.2.1⟩
 ·have:=(r6.lo' hT s15) x;exact⟨this.1,this.2.1⟩
theorem l3(hT:TOK T){m:Nat}{e pt:PM Nd}(he:Tot T (m+1) e)(ht:Tot T (m+1) pt):Tot T m (JZ T e pt):=by
 intro p hp h1 h2;unfold JZ;obtain⟨t,g1,g2,g3⟩:=Zk hp;rw[g1];simp only[xbS];split
 ·exact aj hT he p hp h1 h2
 split
 ·exact lY hT he p hp h1 h2
 split
 ·exact yY hT he p hp h1 h2
 obtain⟨c,p1,e1,s1,x1,r1⟩:=pn hT he ht p hp h1 h2;rw[e1];simp only[xbS];obtain⟨b,p2,e2,s2⟩:∃ b p2,(if p1.flat then some (false,p1) else Xd T [59] p1)=some (b,p2)∧Step T p1 p2:=by
  split
  ·exact⟨_,_,rfl,.refl s1.lt⟩
  ·obtain⟨b,q,f1,f2,_⟩:=V7 hT s1.lt [59];exact⟨b,q,f1,f2⟩
 rw[e2];simp only[xbS];have s12:=s1.trans s2;cases b with
 | true =>
  obtain⟨d,p3,e3,s3,x3,r3⟩:=Qt hT he p2 s2.lt (by rw[s12.deep];exact h1) (by rw[s12.deep];exact h2);simp only[if_true,e3,xmS];exact⟨_,p3,rfl,s12.trans s3,x1.l (s2.trans s3),r1.bin hT (s2.trans s3) (r3.lo' hT s2)⟩
 | false=>exact⟨c,p2,rfl,s12,x1.l s2,r1.mono hT s2⟩
theorem H9(hT:TOK T):∀ (n m:Nat),43≤m+n→Tot T m (Qf T n)
 | 0,m,h=>fun p hp h1 h2=>by omega
 | n+1,m,h=>l3 hT (H9 hT n (m+1) (by omega)) (HR hT (n+1) (m+1) (by omega))
theorem pw(hT:TOK T){m:Nat}{e ty:PM Nd}(he:Tot T (m+1) e)(hy:Tot T (m+1) ty){p:PS}(hp:p.pos<T.length)(h1:m≤p.deep)(h2:p.deep≤40)(hf:p.flat=false):Py T p (Y7 T e ty p):=by
 unfold Y7;obtain⟨b,e0,x0⟩:=UN hp [116,121,112,101];rw[e0];simp only[xbS];obtain⟨nd,p1,e1,s1,x1,r1⟩:Py T p (if b=true then QS T ty p else (ZR T p).bind fun r=>(Q2 T e { r.2 with flat:=true }).map fun q=>(zw (if q.1.2.1 then 29 else 28) r.1.pos q.1.1 [q.1.2.2],{ q.2 with flat:=false })):=by
  cases b with
  | true=>exact wW hT hy p hp h1 h2
  | false =>
   obtain⟨t,g1,g2,g3⟩:=Zk hp;obtain⟨p1,e1,s1,y1,_,_⟩:=QO hT hp g1;obtain⟨nm,rec,v,q,e2,s2,x2,r2⟩:=kK hT he (p:={ p1 with flat:=true }) s1.lt (by show m≤p1.deep;rw[s1.deep];exact h1) (by show p1.deep≤40;rw[s1.deep];exact h2);simp only[XU,if_false,e1,e2,xbS,xmS];have s3:Step T p1 { q with flat:=false }:=⟨s2.deep,by show false=p1.flat;rw[s1.flat,hf],s2.le,s2.lt,fun h=>by
    have hh:=s2.err h;rw[hh];have:p1.flat=false:=by rw[s1.flat,hf]
    cases p1;simp_all⟩
   have s13:=s1.trans s3;refine⟨_,_,rfl,s13,Strict.r (q:=p1) s1 s3 x2,.node hT s13 (fun x=>(Qs (g2 (s13.e0 x))).symm) (fun _=>Int.le_refl _) (fun x c hc=>?_)⟩;rw[List.mem_singleton.1 hc];have h5:NdInv T (Du T p1.pos) v q:=r2;have:=(NdInv.lo' (p:=p) (q:=p1) hT h5 s1) x;exact⟨this.1,this.2.1⟩
 obtain⟨p2,e2,s2,x2⟩:=Qv hT s1.lt [59];simp only[e1,e2,xbS,xmS];exact⟨nd,p2,rfl,s1.trans s2,x1.l s2,r1.mono hT s2⟩
theorem HT(hT:TOK T){m:Nat}{e ty:PM Nd}(he:Tot T (m+1) e)(hy:Tot T (m+1) ty){a:Int}:∀ (n:Nat) (nd:Nd) (p:PS),p.pos<T.length→m≤p.deep→p.deep≤40→p.flat=false→Fuel T n p→NdInv T a nd p→LOut T a p (YV T e ty n nd p)
 | 0,nd,p,_,_,_,_,hf,_=>absurd hf.1 (by omega)
 | n+1,nd,p,hp,h1,h2,hl,hf,hn=>by
  unfold YV;obtain⟨a,e0,x0⟩:=UN hp [116,121,112,101];rw[e0];simp only[xbS];obtain⟨b,e1,x1⟩:∃ b,(if a=true then some true else Yj T [108,101,116] p)=some b∧(b=true→p.e=0):=by
   cases a with
   | true=>exact⟨true,rfl,fun _=>x0 rfl⟩
   | false=>exact UN hp [108,101,116]
  rw[e1];simp only[xbS];cases b with
  | false=>exact⟨nd,p,rfl,.refl hp,hn⟩
  | true =>
   obtain⟨p1,e2,s1⟩:=WV (T:=T) hp nd.kids.length 60;obtain⟨c,p2,e3,s2,x2,r2⟩:=pw hT he hy s1.lt (by rw[s1.deep];exact h1) (by rw[s1.deep];exact h2) (by rw[s1.flat];exact hl);simp only[if_true,e2,e3,xbS];have s12:=s1.trans s2;exact LOut.of s12 (HT hT he hy n _ p2 s12.lt (by rw[s12.deep];exact h1) (by rw[s12.deep];exact h2) (by rw[s12.flat];exact hl) (hf.next hp (x1 rfl) (Strict.r s1 s2 x2)) (hn.add hT s12 (Strict.r s1 s2 x2) (r2.lo' hT s1)))
theorem rf(hT:TOK T){e ty:PM Nd}(he:Tot T 1 e)(hy:Tot T 1 ty){p:PS}(hp:p.pos<T.length)(hd:p.deep=0)(hf:p.flat=false):∃ nd q,KA T e ty p=some (nd,q)∧Step T p q∧NdInv T (Du T p.pos) nd q:=by
 unfold KA;obtain⟨t,g1,g2,g3⟩:=Zk hp;rw[g1];simp only[xbS];obtain⟨nd,p1,e1,s1,r1⟩:=HT hT (m:=0) he hy (a:=Du T p.pos) (T.length+2) (zw 30 t.pos [] []) p hp (by omega) (by omega) hf (Ej (p:=p)) (.node hT (.refl hp) (fun x=>(Qs (g2 x)).symm) (fun _=>Int.le_refl _) (fun _ c hc=>by cases hc));obtain⟨p2,e2,s2,x2⟩:=Qv hT s1.lt [100,111];have s12:=s1.trans s2;obtain⟨u,p3,e3,s3,x3,r3⟩:=Qt (m:=0) hT he p2 s2.lt (by omega) (by rw[s12.deep];omega);obtain⟨t',k1,_,_⟩:=Zk s3.lt;simp only[e1,e2,e3,k1,xbS];have hn:=(r1.mono hT s2).add hT s3 x3 r3;split
 ·obtain⟨q,f1,f2,f3⟩:=W8 (T:=T) s3.lt (e:=14) (by decide);simp only[f1,xmS];exact⟨_,q,rfl,s12.trans (s3.trans f2),fun x=>absurd x f3⟩
 ·exact⟨_,p3,rfl,s12.trans s3,hn⟩
theorem bz(hT:TOK T):∃ nd b e,YI T=some (nd,b,e)∧(e=0→b=0∧Pl T nd)∧(e≠0→nd=Wf):=by
 obtain⟨nd,q,h1,h2,h3⟩:=rf hT (H9 hT 42 1 (by omega)) (Gb hT 42 1 (by omega)) (p:=⟨0,0,false,0,0⟩) hT.pos rfl rfl;unfold YI;rw[h1];simp only[xmS];by_cases he:q.e=0
 ·exact⟨nd,0,0,by simp[he],fun _=>⟨rfl,(h3 he).1⟩,fun x=>absurd rfl x⟩
 ·exact⟨Wf,q.bad,q.e,by simp[he],fun x=>absurd x he,fun _=>rfl⟩
end Go.AL
namespace Go.AL
mutual
def Zg:Nd→Nd→Bool
 | .mk k t n _ ns ks,.mk k' t' n' _ ns' ks'=>decide (k=k')&&decide (t=t')&&decide (n=n')&&decide (ns=ns')&&qn ks ks'
def qn:List Nd→List Nd→Bool
 | [],[]=>true
 | a::l,b::r=>Zg a b&&qn l r
 | _,_=>false
end
theorem Kk:∀ {l1 l2:List Nd},qn l1 l2=true→l1.length=l2.length
 | [],[],_=>rfl
 | a::l,b::r,h=>by
  simp only[qn,XT] at h;simp[Kk h.2]
 | [],_::_,h=>by simp[qn] at h
 | _::_,[],h=>by simp[qn] at h
theorem XW{a b:Nd}(h:Zg a b=true):a.kind=b.kind∧a.text=b.text∧a.num=b.num∧a.names=b.names∧qn a.kids b.kids=true:=by
 cases a;cases b;simp only[Zg,XT,decide_eq_true_eq] at h;obtain⟨⟨⟨⟨h1,h2⟩,h3⟩,h4⟩,h5⟩:=h;exact⟨h1,h2,h3,h4,h5⟩
theorem Yy{a b:Nd}(h1:a.kind=b.kind)(h2:a.text=b.text)(h3:a.num=b.num)(h4:a.names=b.names)(h5:qn a.kids b.kids=true):Zg a b=true:=by
 cases a;cases b;simp only[Zg,XT,decide_eq_true_eq];exact⟨⟨⟨⟨h1,h2⟩,h3⟩,h4⟩,h5⟩
structure Rel (d lo:Nat) (p1 p2:PS):Prop where
 lo:lo≤p1.pos
 pos:p2.pos=p1.pos+d
 deep:p2.deep=p1.deep+d
 flat:p2.flat=p1.flat
 e:p2.e=p1.e
def Ok(ex:Bool)(q1 q2:PS):Prop:=ex=true∨(q1.e=0∧q2.e=0)
def Sm(t1 t2:Tk):Prop:=t1.kind=t2.kind∧t1.text=t2.text∧t1.num=t2.num
structure TR (ex:Bool) (d lo:Nat) (T1 T2:List Tk):Prop where
 k1:TOK T1
 k2:TOK T2
 dx:ex=true→d=0
 tk:∀ i,lo≤i→i<T1.length→∃ t1 t2,T1[i]?=some t1∧T2[i+d]?=some t2∧(Sm t1 t2∨(ex=false∧i+1=T1.length∧t1.kind=0∧t2.kind=5∧t2.text=[41]))
structure Bd (T:List Tk) (m:Nat) (p:PS):Prop where
 lt:p.pos<T.length
 lo:m≤p.deep
 hi:p.deep≤40
variable {ex:Bool} {d lo:Nat} {T1 T2 T:List Tk}
theorem Bd.next{m:Nat}{p q:PS}(b:Bd T m p)(s:Step T p q):Bd T m q:=⟨s.lt,by rw[s.deep];exact b.lo,by rw[s.deep];exact b.hi⟩
theorem Ok.back{p1 p2 q1 q2:PS}(h:Ok ex q1 q2)(s1:Step T1 p1 q1)(s2:Step T2 p2 q2):Ok ex p1 p2:=h.imp id fun x=>⟨s1.e0 x.1,s2.e0 x.2⟩
theorem Ok.f{q1 q2:PS}(h:Ok ex q1 q2)(hx:ex=false):q1.e=0∧q2.e=0:=h.resolve_left (by rw[hx];decide)
theorem Tot.st{m:Nat}{e:PM Nd}(h:Tot T m e){p:PS}(b:Bd T m p){r:Nd}{q:PS}(hr:e p=some (r,q)):Step T p q∧Strict p q:=by
 obtain⟨nd,q',h1,h2,h3,_⟩:=h p b.lt b.lo b.hi;rw[h1] at hr;cases hr;exact⟨h2,h3⟩
def TkR(ex:Bool)(T1:List Tk)(p1:PS)(t1 t2:Tk):Prop:=Sm t1 t2∨(ex=false∧p1.pos+1=T1.length∧p1.e=0∧t1.kind=0∧t2.kind=5∧t2.text=[41])
theorem Sm.isT{t1 t2:Tk}(h:Sm t1 t2)(s:Tx):isT t1 s=isT t2 s:=by unfold AL.isT;rw[h.1,h.2.1]
theorem TkR.isT{p1:PS}{t1 t2:Tk}(h:TkR ex T1 p1 t1 t2){s:Tx}(hs:s≠[41]):isT t1 s=isT t2 s:=by
 rcases h with h | ⟨_,_,_,h1,h2,h3⟩
 ·exact h.isT s
 ·unfold AL.isT;have e:([41]==s)=false:=beq_eq_false_iff_ne.2 (fun h=>hs h.symm);rw[h1,h2,h3,e];simp
theorem TkR.kind{p1:PS}{t1 t2:Tk}(h:TkR ex T1 p1 t1 t2){k:Int}(h0:k≠0)(h5:k≠5):(t1.kind=k)=(t2.kind=k):=by
 rcases h with h | ⟨_,_,_,h1,h2,h3⟩
 ·rw[h.1]
 ·rw[h1,h2];exact propext ⟨fun x=>absurd x.symm h0,fun x=>absurd x.symm h5⟩
theorem Bm{p:PS}{s:Tx}{b:Bool}(h:Yj T s p=some b):∃ t,zH T p=some t∧b=isT t s:=by
 unfold Yj at h;cases hl:zH T p with
 | none=>rw[hl] at h;cases h
 | some t=>rw[hl] at h;cases h;exact⟨t,rfl,rfl⟩
theorem Ua{p q:PS}{t:Tk}(h:ZR T p=some (t,q)):zH T p=some t∧q=if p.e=0∧t.kind≠0 then { p with pos:=p.pos+1 } else p:=by
 unfold ZR at h;cases hl:zH T p with
 | none=>rw[hl] at h;cases h
 | some u=>rw[hl] at h;cases h;exact⟨rfl,rfl⟩
theorem XM(hT:TOK T){p q:PS}(hp:p.pos<T.length){t:Tk}(h:ZR T p=some (t,q)):Step T p q∧(t.kind≠0→Strict p q):=by
 obtain⟨h1,_⟩:=Ua h;obtain⟨q',h2,h3,_,h4,_⟩:=QO hT hp h1;rw[h2] at h;cases h;exact⟨h3,fun k _ _=>by have:=(h4 k).2;omega⟩
theorem Kj(hT:TOK T){p q:PS}(hp:p.pos<T.length){s:Tx}{b:Bool}(h:Xd T s p=some (b,q)):Step T p q:=by
 obtain⟨b',q',h1,h2,_⟩:=V7 hT hp s;rw[h1] at h;cases h;exact h2
theorem lC{p q:PS}{s:Tx}{b:Bool}(h:Xd T s p=some (b,q)):∃ t,zH T p=some t∧b=isT t s∧(if b=true then ZR T p=some (t,q) else q=p):=by
 unfold Xd at h;simp only[xoB] at h;obtain⟨b',h1,h2⟩:=h;obtain⟨t,h3,rfl⟩:=Bm h1;cases hb:isT t s with
 | true =>
  rw[hb] at h2;simp only[if_true,xoM,xpX,xpJ] at h2;obtain⟨u,q',h4,rfl,rfl⟩:=h2;obtain⟨h5,_⟩:=Ua h4;rw[h3] at h5;cases h5;exact⟨t,h3,hb.symm,by simpa using h4⟩
 | false =>
  rw[hb] at h2;simp only[XU,if_false,xsJ,xpJ] at h2;obtain⟨rfl,rfl⟩:=h2;exact⟨t,h3,hb.symm,by simp⟩
theorem bw{p q:PS}{e:Int}(h:Zq T e p=some q):q.pos=p.pos∧q.deep=p.deep∧q.flat=p.flat∧q.e=if p.e=0 then e else p.e:=by
 unfold Zq at h;by_cases c:p.e=0
 ·rw[if_pos c] at h ⊢;cases hx:T[p.pos]? with
  | none=>rw[hx] at h;cases h
  | some t=>rw[hx] at h;cases h;exact⟨rfl,rfl,rfl,rfl⟩
 ·rw[if_neg c] at h ⊢;cases h;exact⟨rfl,rfl,rfl,rfl⟩
theorem Qb{p q:PS}{e:Int}(h:Zq T e p=some q)(he:e≠0):q.e≠0:=by
 rw[(bw h).2.2.2];split
 ·exact he
 ·assumption
theorem L6{p q:PS}(hp:p.pos<T.length){e:Int}(h:Zq T e p=some q):Step T p q:=by
 unfold Zq at h;by_cases c:p.e=0
 ·rw[if_pos c] at h;cases hx:T[p.pos]? with
  | none=>rw[hx] at h;cases h
  | some t=>rw[hx] at h;cases h;exact⟨rfl,rfl,Nat.le_refl _,hp,fun x=>absurd c x⟩
 ·rw[if_neg c] at h;cases h;exact .refl hp
theorem bd{p q:PS}{s:Tx}(h:qy T s p=some q):∃ b q',Xd T s p=some (b,q')∧(if b=true then q=q' else Zq T 14 q'=some q):=by
 unfold qy at h;simp only[xoB,xpX] at h;obtain⟨b,q',h1,h2⟩:=h;refine⟨b,q',h1,?_⟩;cases b with
 | true=>simp only[if_true,xsJ] at h2 ⊢;exact h2.symm
 | false=>simpa using h2
theorem ZI(hT:TOK T){p q:PS}(hp:p.pos<T.length){s:Tx}(h:qy T s p=some q):Step T p q∧Strict p q:=by
 obtain⟨q',h1,h2,h3⟩:=Qv hT hp s;rw[h1] at h;cases h;exact⟨h2,h3⟩
theorem Gz{p q:PS}{k:Int}{t:Tk}(h:Qy T k p=some (t,q)):∃ u p1,zH T p=some u∧(if u.kind≠k then Zq T 14 p=some p1 else p1=p)∧ZR T p1=some (t,q):=by
 unfold Qy at h;simp only[xoB] at h;obtain⟨u,h1,p1,h2,h3⟩:=h;refine⟨u,p1,h1,?_,h3⟩;by_cases c:u.kind≠k
 ·rw[if_pos c] at h2 ⊢;exact h2
 ·rw[if_neg c] at h2 ⊢;exact (Option.some.inj h2).symm
theorem Ks(hT:TOK T){p q:PS}(hp:p.pos<T.length){k:Int}(hk:k≠0){t:Tk}(h:Qy T k p=some (t,q)):Step T p q∧Strict p q:=by
 obtain⟨t',q',h1,h2,h3,_⟩:=Kr hT hp hk;rw[h1] at h;cases h;exact⟨h2,h3⟩
theorem YC{p q:PS}(hp:p.pos<T.length){n m:Int}(h:ZO T n m p=some q):Step T p q:=by
 unfold ZO at h;split at h
 ·exact L6 hp h
 ·cases h;exact .refl hp
end Go.AL
