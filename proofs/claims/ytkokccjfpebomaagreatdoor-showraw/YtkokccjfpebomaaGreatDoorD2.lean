/- What a source's node is like: each node has the kids that its kind asks. -/
import Derived.Test.YtkokccjfpebomaaGreatDoorX1
set_option linter.all false
namespace Go.AL
theorem Gf{k:Int}(hk:k=1∨k=2∨k=3∨k=4∨k=5∨k=24∨k=19)(t:Tx)(m a:Int):GE (.mk k t m a [] []):=by
 refine .mk _ (fun c hc=>by cases hc) ?_;simp only[Nd.kind];rcases hk with h | h | h | h | h | h | h <;> simp[h]
theorem fP{n c:Nd}(hk:n.kind=4∨n.kind=5∨n.kind=24∨n.kind=1∨n.kind=2∨n.kind=3∨n.kind=19)(h:GE n)(g:GE c):GE (n.addKid c):=by
 have hh:=h.kids;cases n with
 | mk k t m a ns ks =>
  refine .mk _ (fun x hx=>?_) ?_
  ·simp only[Nd.addKid,Nd.kids,List.mem_append,List.mem_singleton] at hx;rcases hx with hx | rfl
   ·exact hh x hx
   ·exact g
  ·simp only[Nd.kind,Nd.addKid] at hk ⊢;rcases hk with h | h | h | h | h | h | h <;> simp[h]
variable {T:List Tk}
def V9(e:PM Nd):Prop:=∀ p nd q,e p=some (nd,q)→q.e=0→p.e=0∧GE nd
def E0(p q:PS):Prop:=q.e=0→p.e=0
theorem E0.of{p q:PS}{n:Nat}(h:Go1 T p q n):E0 p q:=fun z=>(h z).1
theorem G4{e:PM Nd}(he:V9 e):V9 (Yn T e):=by
 intro p nd q h hq;unfold Yn at h;simp only[xoB] at h;obtain⟨p1,h1,h⟩:=h;have g1:E0 p p1:=by
  split at h1
  ·exact E0.of (T:=T) (Vv (by decide) h1 0)
  ·cases h1;exact id
 split at h
 ·cases h;rename_i x;exact absurd hq x
 ·simp only[xoB,xpX] at h;obtain⟨r,p2,h2,h3⟩:=h;split at h3
  ·cases h3
  ·cases h3;obtain⟨a,b⟩:=he _ _ _ h2 hq;exact⟨g1 a,b⟩
theorem eE{e:PM Nd}(he:V9 e):V9 (Yl T e):=by
 intro p nd q h hq;unfold Yl at h;simp only[xoB,xoM,xpX,xpJ] at h;obtain⟨p1,h1,r,p2,h2,p3,h3,rfl,rfl⟩:=h;obtain⟨a,b⟩:=G4 he _ _ _ h2 (E0.of (Zo h3) hq);exact⟨E0.of (Zo h1) a,b⟩
theorem bT{kinds:List (Int×Int)}(hk:∀ q∈kinds,q.2=1∨q.2=2∨q.2=3∨q.2=4∨q.2=5∨q.2=24∨q.2=19):V9 (Xc T kinds):=by
 intro p nd q h hq;unfold Xc at h;simp only[xoB] at h;obtain⟨t,hl,h⟩:=h;split at h
 ·simp only[xoM,xpJ] at h;obtain⟨q',h1,rfl,rfl⟩:=h;exact absurd hq (Qb h1 (by decide))
 ·simp only[xoM,xpJ,xpX] at h;obtain⟨t',q',h1,rfl,rfl⟩:=h;rename_i hne;obtain⟨_,g0,_⟩:=ZZ h1;refine⟨(g0 hq).1,?_⟩;cases hf:kinds.find? fun q=>q.1==t.kind with
  | none=>rw[hf] at hne;exact absurd rfl hne
  | some y=>exact Gf (hk y (List.mem_of_find?_eq_some hf)) _ _ _
theorem xI{e:PM Nd}(he:V9 e):V9 (Qo T e):=by
 intro p nd q h hq;unfold Qo at h;simp only[xoB,xpX] at h;obtain⟨t,hl,b,p1,h1,h⟩:=h;have g1:=E0.of (Vs h1);split at h
 ·cases h;exact⟨g1 hq,Gf (.inr (.inr (.inr (.inr (.inr (.inl rfl)))))) _ _ _⟩
 ·simp only[xoB] at h;obtain⟨c,_,h⟩:=h;split at h
  ·obtain⟨a,b⟩:=eE he _ _ _ h hq;exact⟨g1 a,b⟩
  ·obtain⟨a,b⟩:=bT (by decide) _ _ _ h hq;exact⟨g1 a,b⟩
def AK(n:Nd):Prop:=n.kind=4∨n.kind=5∨n.kind=24∨n.kind=1∨n.kind=2∨n.kind=3∨n.kind=19
theorem bC{n c:Nd}(h:AK n):AK (n.addKid c):=by cases n;exact h
theorem ue{kinds:List (Int×Int)}(hk:∀ q∈kinds,q.2=1∨q.2=2∨q.2=3∨q.2=4∨q.2=5∨q.2=24∨q.2=19){p q:PS}{nd:Nd}(h:Xc T kinds p=some (nd,q))(hq:q.e=0):AK nd:=by
 unfold Xc at h;simp only[xoB] at h;obtain⟨t,hl,h⟩:=h;split at h
 ·simp only[xoM,xpJ] at h;obtain⟨q',h1,rfl,rfl⟩:=h;exact absurd hq (Qb h1 (by decide))
 ·simp only[xoM,xpJ,xpX] at h;obtain⟨t',q',h1,rfl,rfl⟩:=h;rename_i hne;cases hf:kinds.find? fun q=>q.1==t.kind with
  | none=>rw[hf] at hne;exact absurd rfl hne
  | some y =>
   have:=hk y (List.mem_of_find?_eq_some hf);show AK (.mk y.2 _ _ _ _ _);unfold AK;simp only[Nd.kind];omega
theorem dQ{e:PM Nd}(he:V9 e):∀ (n:Nat) (m:Bool) (nd:Nd) (p:PS) (r:Nd) (q:PS),(m=true→AK nd)→JO T e n m nd p=some (r,q)→q.e=0→p.e=0∧(GE nd→GE r)
 | 0,_,_,_,_,_,_,h,_=>by cases h
 | n+1,m,nd,p,r,q,hm,h,hq=>by
  unfold JO at h;split at h
  ·rename_i hmm;simp only[xoB] at h;obtain⟨b,_,h⟩:=h;split at h
   ·simp only[xoB,xpX] at h;obtain⟨p1,h1,c,p2,h2,h4⟩:=h;obtain⟨a,b⟩:=dQ he n _ _ _ _ _ (fun x=>bC (hm x)) h4 hq;obtain⟨a2,b2⟩:=xI he _ _ _ h2 a;exact⟨E0.of (VG h1) a2,fun x=>b (fP (hm hmm) x b2)⟩
   ·cases h;exact⟨hq,id⟩
  ·cases h;exact⟨hq,id⟩
theorem Am{p q:PS}{s:Tx}{b:Bool}{t:Tk}(hl:zH T p=some t)(hb:isT t s=false)(h:Xd T s p=some (b,q)):b=false∧q=p:=by
 unfold Xd Yj at h;rw[hl] at h;simp only[xmS,xbS,hb] at h;cases h;exact⟨rfl,rfl⟩
theorem bX{e:PM Nd}{p q:PS}{nd:Nd}{t:Tk}(hl:zH T p=some t)(ht:t.kind=4)(h:Qo T e p=some (nd,q))(hq:q.e=0):AK nd:=by
 have no:=Gj (t:=t) (by rw[ht];decide) (by rw[ht];decide);unfold Qo at h;simp only[xoB,xpX] at h;obtain⟨t',_,b,p1,h1,h⟩:=h;obtain⟨rfl,rfl⟩:=Am hl (no _) h1;rw[if_neg (by decide)] at h;unfold Yj at h;rw[hl] at h;simp only[xmS,xbS,no,XU,if_false] at h;exact ue (by decide) h hq
theorem yA:∀ n,V9 (Qq T n)
 | 0=>fun _ _ _ h=>by cases h
 | n+1=>by
  intro p nd q h hq;unfold Qq HW at h;simp only[xoB,xpX] at h;obtain⟨t,hl,r,p1,h1,h2⟩:=h;have hstep:p1.e=0∧(GE r→GE nd):=dQ (yA n) _ _ _ _ _ _ (fun x=>by
   have ht:t.kind=4:=by simpa using x
   by_cases z:p1.e=0
   ·exact bX hl ht h1 z
   ·exact absurd hq (fun hq=>by
     obtain⟨k,_,g⟩:=yK (GK n) _ _ _ _ _ _ h2;exact z (g hq).1)) h2 hq
  obtain⟨a,b⟩:=xI (yA n) _ _ _ h1 hstep.1;exact⟨a,hstep.2 b⟩
theorem HN{e:PM Nd}(he:V9 e):V9 (Q4 T e):=by
 intro p nd q h hq;unfold Q4 at h;simp only[xoM,xpX,xpJ] at h;obtain⟨r,p1,h1,rfl,rfl⟩:=h;obtain⟨a,b⟩:=G4 he _ _ _ h1 (show p1.e=0 from hq);exact⟨a,b⟩
theorem J7{k a:Int}{t:Tx}{l:List Nd}(hl:∀ c∈l,GE c)(hk:(k=6∧1≤l.length)∨((k=7∨k=8∨k=9∨k=12∨k=13∨k=14)∧2≤l.length)∨(k=10∧3≤l.length)∨(k=11∧1≤l.length)∨((k=15∨k=16∨k=17∨k=18∨k=21∨k=22∨k=23∨k=20)∧t=[])):GE (zw k a t l) :=
 .mk _ hl (.inr (.inr (.inr (.inr (.inr (.inr (.inr hk)))))))
theorem K6{a b:Nd}(h:GE a)(g:GE b):∀ c∈[a,b],GE c:=fun c hc=>by
 rcases List.mem_cons.1 hc with rfl | hc
 ·exact h
 ·rw[List.mem_singleton.1 hc];exact g
theorem ve{e pt:PM Nd}(he:V9 e)(hp:V9 pt):∀ (n:Nat) (m:Bool) (nd:Nd) (p:PS) (r:Nd) (q:PS),nd.kind=11→1≤nd.kids.length→QR T e pt n m nd p=some (r,q)→q.e=0→p.e=0∧(GE nd→GE r)
 | 0,_,_,_,_,_,_,_,h,_=>by cases h
 | n+1,m,nd,p,r,q,hk,hl,h,hq=>by
  unfold QR at h;simp only[xoB] at h;obtain⟨b,_,h⟩:=h;split at h
  ·simp only[xoB,xpX] at h;obtain⟨p1,h1,p2,h2,c,p3,h3,p4,h4,d,p5,h5,h6⟩:=h;obtain⟨a,b⟩:=ve he hp n _ _ _ _ _ (by cases nd;exact hk) (by cases nd;simp only[Nd.addKids,Nd.kids,xlA] at hl ⊢;omega) h6 hq;obtain⟨a5,b5⟩:=HN he _ _ _ h5 a;obtain⟨a3,b3⟩:=G4 hp _ _ _ h3 (E0.of (Zo h4) a5);refine⟨E0.of (VG h1) (E0.of (Zo h2) a3),fun x=>b ?_⟩;have hh:=x.kids;cases nd with
   | mk k t m a ns ks =>
    refine .mk _ (fun y hy=>?_) ?_
    ·simp only[Nd.addKids,Nd.kids,List.mem_append] at hy;rcases hy with hy | hy
     ·exact hh y hy
     ·exact K6 b3 b5 y hy
    ·simp only[Nd.kind,Nd.addKids,Nd.kids,xlA] at hk hl ⊢;simp[hk]
  ·cases h;exact⟨hq,id⟩
theorem aF{e pt:PM Nd}(he:V9 e)(hp:V9 pt):V9 (Y1 T e pt):=by
 intro p nd q h hq;unfold Y1 at h;simp only[xoB,xoM,xpX,xpJ] at h;obtain⟨t,p1,h1,c,p2,h2,p3,h3,r,p4,h4,p5,h5,rfl,rfl⟩:=h;obtain⟨_,g0,_⟩:=ZZ h1;obtain⟨a,b⟩:=ve he hp _ _ _ _ _ _ rfl (by simp[zw,Nd.kids]) h4 (E0.of (Zo h5) hq);obtain⟨a2,b2⟩:=HN he _ _ _ h2 (E0.of (Zo h3) a);exact⟨E0.of g0 a2,b (J7 (fun c hc=>by rw[List.mem_singleton.1 hc];exact b2) (by simp))⟩
theorem N8{e:PM Nd}(he:V9 e):V9 (Hm T e):=by
 intro p nd q h hq;unfold Hm at h;simp only[xoB,xoM,xpX,xpJ] at h;obtain⟨t,p1,h1,c,p2,h2,p3,h3,u,p4,h4,p5,h5,d,p6,h6,p7,h7,rfl,rfl⟩:=h;obtain⟨_,g0,_⟩:=ZZ h1;obtain⟨a6,b6⟩:=HN he _ _ _ h6 (E0.of (Zo h7) hq);obtain⟨a2,b2⟩:=HN he _ _ _ h2 (E0.of (Zo h3) (E0.of (Ki (by decide) h4) (E0.of (Zo h5) a6)));exact⟨E0.of g0 a2,J7 (K6 b2 b6) (by simp)⟩
theorem jS{e pt:PM Nd}(he:V9 e)(hp:V9 pt):V9 (ZL T e pt):=by
 intro p nd q h hq;unfold ZL at h;simp only[xoB] at h;obtain⟨t,hl,h⟩:=h;split at h
 ·exact aF he hp _ _ _ h hq
 split at h
 ·exact N8 he _ _ _ h hq
 split at h
 ·simp only[xoM,xpX,xpJ] at h;obtain⟨t',p1,h1,rfl,rfl⟩:=h;obtain⟨_,g0,_⟩:=ZZ h1;exact⟨E0.of g0 hq,Gf (.inr (.inr (.inr (.inr (.inr (.inr rfl)))))) _ _ _⟩
 split at h
 ·simp only[xoB,xpX] at h;obtain⟨t',p1,h1,b,p2,h2,h⟩:=h;obtain⟨_,g0,_⟩:=ZZ h1;split at h
  ·cases h;exact⟨E0.of g0 (E0.of (Vs h2) hq),Gf (.inr (.inr (.inl rfl))) _ _ _⟩
  ·simp only[xoB,xoM,xpX,xpJ] at h;obtain⟨c,p3,h3,p4,h4,rfl,rfl⟩:=h;obtain⟨a,b⟩:=HN he _ _ _ h3 (E0.of (Zo h4) hq);exact⟨E0.of g0 (E0.of (Vs h2) a),b⟩
 ·exact bT (by decide) _ _ _ h hq
theorem aD{e pt:PM Nd}{p q:PS}{nd:Nd}{t:Tk}(hl:zH T p=some t)(ht:t.kind=4)(h:ZL T e pt p=some (nd,q))(hq:q.e=0):AK nd:=by
 have no:=Gj (t:=t) (by rw[ht];decide) (by rw[ht];decide);unfold ZL at h;rw[hl] at h;simp only[xbS,no,XU,if_false] at h;exact ue (by decide) h hq
def KK(n:Nd):Prop:=(n.kind=15∨n.kind=16∨n.kind=17∨n.kind=18∨n.kind=21∨n.kind=22∨n.kind=23∨n.kind=20)∧n.text=[]
theorem AA{n c:Nd}(hk:KK n)(h:GE n)(g:GE c):KK (n.addKid c)∧GE (n.addKid c):=by
 have hh:=h.kids;cases n with
 | mk k t m a ns ks =>
  refine⟨hk,.mk _ (fun x hx=>?_) (.inr (.inr (.inr (.inr (.inr (.inr (.inr (.inr (.inr (.inr (.inr hk))))))))))) ⟩;simp only[Nd.addKid,Nd.kids,List.mem_append,List.mem_singleton] at hx;rcases hx with hx | rfl
  ·exact hh x hx
  ·exact g
theorem kg{e pt:PM Nd}(he:V9 e)(hp:V9 pt):∀ (n:Nat) (nd:Nd) (p:PS) (r:Nd) (q:PS),KK nd→Xl T e pt n nd p=some (r,q)→q.e=0→p.e=0∧(GE nd→GE r)
 | 0,_,_,_,_,_,h,hq=>by cases h;exact⟨hq,id⟩
 | n+1,nd,p,r,q,hk,h,hq=>by
  unfold Xl at h;simp only[xoB,xpX] at h;obtain⟨c,p1,h1,h2⟩:=h;obtain⟨a,b⟩:=kg he hp n _ _ _ _ (by cases nd;exact hk) h2 hq;obtain⟨a1,b1⟩:=jS he hp _ _ _ h1 a;exact⟨a1,fun x=>b (AA hk x b1).2⟩
theorem yH{e pt:PM Nd}(he:V9 e)(hp:V9 pt):∀ (n:Nat) (m:Bool) (nd:Nd) (p:PS) (r:Nd) (q:PS),(m=true→AK nd)→Yp T e pt n m nd p=some (r,q)→q.e=0→p.e=0∧(GE nd→GE r)
 | 0,_,_,_,_,_,_,h,_=>by cases h
 | n+1,m,nd,p,r,q,hm,h,hq=>by
  unfold Yp at h;simp only[xoB] at h;obtain⟨t,hl,h⟩:=h;split at h
  ·split at h
   ·rename_i hmm;simp only[xoB,xpX] at h;obtain⟨p1,h1,c,p2,h2,h4⟩:=h;obtain⟨a,b⟩:=yH he hp n _ _ _ _ _ (fun x=>bC (hm x)) h4 hq;obtain⟨a2,b2⟩:=jS he hp _ _ _ h2 a;exact⟨E0.of (VG h1) a2,fun x=>b (fP (hm hmm) x b2)⟩
   ·rename_i hmm;simp only[xoB,xpX] at h;obtain⟨c,p2,h2,h4⟩:=h;obtain⟨a,b⟩:=yH he hp n _ _ _ _ _ (fun x=>absurd x hmm) h4 hq;obtain⟨a2,b2⟩:=jS he hp _ _ _ h2 a;exact⟨a2,fun x=>b (J7 (K6 x b2) (by simp))⟩
  ·cases h;exact⟨hq,id⟩
theorem lM(s:Tx)(h:0<(qJ s).1):(qJ s).1=15∨(qJ s).1=16∨(qJ s).1=17∨(qJ s).1=18∨(qJ s).1=21∨(qJ s).1=22∨(qJ s).1=23∨(qJ s).1=20:=by
 unfold qJ at h ⊢;repeat' split
 all_goals first | simp | skip
 simp_all
theorem MN{e pt:PM Nd}(he:V9 e)(hp:V9 pt)(hew:YZ T e)(hpw:YZ T pt):V9 (Jf T e pt):=by
 intro p nd q h hq;unfold Jf at h;simp only[xoB] at h;obtain⟨t,hl,h⟩:=h;split at h
 ·rename_i hk;simp only[xoB,xpX] at h;obtain⟨t',p1,h1,h2⟩:=h;obtain⟨_,g0,_⟩:=ZZ h1;have kk:KK (zw (qJ t.text).1 t.pos [] []):=⟨lM _ hk.2,rfl⟩;obtain⟨a,b⟩:=kg he hp _ _ _ _ _ kk h2 hq;exact⟨E0.of g0 a,b (.mk _ (fun c hc=>by cases hc) (.inr (.inr (.inr (.inr (.inr (.inr (.inr (.inr (.inr (.inr (.inr kk))))))))))))⟩
 ·simp only[xoB,xpX] at h;obtain⟨c,p1,h1,h2⟩:=h;have z:p1.e=0:=by
   obtain⟨k,_,g⟩:=jB hew hpw _ _ _ _ _ _ h2;exact (g hq).1
  obtain⟨a,b⟩:=yH he hp _ _ _ _ _ _ (fun x=>aD hl (by simpa using x) h1 z) h2 hq;obtain⟨a1,b1⟩:=jS he hp _ _ _ h1 a;exact⟨a1,b b1⟩
theorem xC{part:PM Nd}(hp:V9 part)(signs:List Tx):∀ (n:Nat) (t:Tk) (nd:Nd) (p:PS) (r:Nd) (q:PS),JW T part signs n t nd p=some (r,q)→q.e=0→p.e=0∧(GE nd→GE r)
 | 0,_,_,_,_,_,h,_=>by cases h
 | n+1,t,nd,p,r,q,h,hq=>by
  unfold JW at h;split at h
  ·simp only[xoB,xpX] at h;obtain⟨t1,p1,h1,c,p2,h2,t2,h3,h4⟩:=h;obtain⟨_,g0,_⟩:=ZZ h1;obtain⟨a,b⟩:=xC hp signs n _ _ _ _ _ h4 hq;obtain⟨a2,b2⟩:=hp _ _ _ h2 a;exact⟨E0.of g0 a2,fun x=>b (J7 (K6 x b2) (by simp))⟩
  ·cases h;exact⟨hq,id⟩
theorem tM{part:PM Nd}(hp:V9 part)(signs:List Tx):V9 (JV T part signs):=by
 intro p nd q h hq;unfold JV at h;simp only[xoB,xpX] at h;obtain⟨c,p1,h1,t,h2,h3⟩:=h;obtain⟨a,b⟩:=xC hp signs _ _ _ _ _ _ h3 hq;obtain⟨a1,b1⟩:=hp _ _ _ h1 a;exact⟨a1,b b1⟩
theorem rH{e pt:PM Nd}(he:V9 e)(hp:V9 pt)(hew:YZ T e)(hpw:YZ T pt):V9 (Wn T e pt):=by
 have hs:V9 (EK T e pt):=tM (tM (MN he hp hew hpw) _) _;intro p nd q h hq;unfold Wn at h;simp only[xoB,xpX] at h;obtain⟨c,p1,h1,t,h2,h⟩:=h;split at h
 ·simp only[xoB,xoM,xpX,xpJ] at h;obtain⟨t1,p2,h3,d,p3,h4,rfl,rfl⟩:=h;obtain⟨_,g0,_⟩:=ZZ h3;obtain⟨a,b⟩:=hs _ _ _ h4 hq;obtain⟨a1,b1⟩:=hs _ _ _ h1 (E0.of g0 a);exact⟨a1,J7 (K6 b1 b) (by simp)⟩
 ·cases h;exact hs _ _ _ h1 hq
theorem gG{e:PM Nd}(he:V9 e){p q:PS}{x:Tx}{b:Bool}{v:Nd}(h:Q2 T e p=some ((x,b,v),q))(hq:q.e=0):p.e=0∧GE v:=by
 unfold Q2 at h;simp only[xoB,xoM,xpX,xpJ] at h;obtain⟨b',p1,h1,t,p2,h2,p3,h3,p4,h4,w,p5,h5,⟨rfl,rfl,rfl⟩,rfl⟩:=h;have g4:E0 p3 p4:=by
  split at h4
  ·simp only[xoB] at h4;obtain⟨c,_,h4⟩:=h4;split at h4
   ·cases h4;exact id
   ·exact E0.of (T:=T) (Vv (by decide) h4 0)
  ·cases h4;exact id
 obtain⟨a,b⟩:=G4 he _ _ _ h5 hq;exact⟨E0.of (Vs h1) (E0.of (Ki (by decide) h2) (E0.of (Zo h3) (g4 a))),b⟩
theorem Cu{e pt:PM Nd}(he:V9 e)(hp:V9 pt)(hew:YZ T e)(hpw:YZ T pt):V9 (JZ T e pt):=by
 intro p nd q h hq;unfold JZ at h;simp only[xoB] at h;obtain⟨t,hl,h⟩:=h;split at h
 ·unfold B9 at h;simp only[xoB,xoM,xpX,xpJ] at h;obtain⟨t0,p1,h1,x,b,v,p2,h2,p3,h3,c,p4,h4,rfl,rfl⟩:=h;obtain⟨_,g0,_⟩:=ZZ h1;obtain⟨a4,b4⟩:=G4 he _ _ _ h4 hq;obtain⟨a2,b2⟩:=gG he h2 (E0.of (Zo h3) a4);exact⟨E0.of g0 a2,J7 (K6 b2 b4) (by cases b <;> simp)⟩
 split at h
 ·unfold Fl at h;simp only[xoB,xoM,xpX,xpJ] at h;obtain⟨t0,p1,h1,x,p2,h2,p3,h3,c,p4,h4,rfl,rfl⟩:=h;obtain⟨_,g0,_⟩:=ZZ h1;obtain⟨a4,b4⟩:=G4 he _ _ _ h4 hq;exact⟨E0.of g0 (E0.of (Ki (by decide) h2) (E0.of (Zo h3) a4)),J7 (fun c hc=>by rw[List.mem_singleton.1 hc];exact b4) (by simp)⟩
 split at h
 ·unfold JD at h;simp only[xoB,xoM,xpX,xpJ] at h;obtain⟨t0,p1,h1,c,p2,h2,p3,h3,d,p4,h4,p5,h5,f,p6,h6,rfl,rfl⟩:=h;obtain⟨_,g0,_⟩:=ZZ h1;obtain⟨a6,b6⟩:=G4 he _ _ _ h6 hq;obtain⟨a4,b4⟩:=G4 he _ _ _ h4 (E0.of (Zo h5) a6);obtain⟨a2,b2⟩:=G4 he _ _ _ h2 (E0.of (Zo h3) a4);refine⟨E0.of g0 a2,J7 (fun y hy=>?_) (by simp)⟩;rcases List.mem_cons.1 hy with rfl | hy
  ·exact b2
  ·exact K6 b4 b6 y hy
 ·simp only[xoB,xpX] at h;obtain⟨c,p1,h1,b,p2,h2,h⟩:=h;have g2:E0 p1 p2:=by
   split at h2
   ·cases h2;exact id
   ·exact E0.of (Vs h2)
  split at h
  ·simp only[xoM,xpX,xpJ] at h;obtain⟨d,p3,h3,rfl,rfl⟩:=h;obtain⟨a3,b3⟩:=G4 he _ _ _ h3 hq;obtain⟨a1,b1⟩:=rH he hp hew hpw _ _ _ h1 (g2 a3);exact⟨a1,J7 (K6 b1 b3) (by simp)⟩
  ·cases h;exact rH he hp hew hpw _ _ _ h1 (g2 hq)
theorem y8:∀ n,V9 (Qf T n)
 | 0=>fun _ _ _ h=>by cases h
 | n+1=>Cu (y8 n) (yA (n+1)) (Bx n) (GK (n+1))
theorem xX{e:PM Nd}(he:YZ T e):∀ (n:Nat) (m:Bool) (nd:Nd) (p:PS) (r:Nd) (q:PS),YP T e n m nd p=some (r,q)→q.e=0→p.e=0∧r.kind=nd.kind∧nd.kids.length≤r.kids.length∧(m=true→nd.kids.length<r.kids.length)
 | 0,_,_,_,_,_,h,_=>by cases h
 | n+1,m,nd,p,r,q,h,hq=>by
  unfold YP at h;split at h
  ·simp only[xoB,xpX] at h;obtain⟨p1,h1,c,p2,h2,b,p3,h3,h4⟩:=h;obtain⟨a,b4,c4,_⟩:=xX he n _ _ _ _ _ h4 hq;have g2:=rr he _ _ _ h2;have hlen:(nd.addKid c).kids.length=nd.kids.length+1:=by cases nd;simp[Nd.addKid,Nd.kids]
   refine⟨E0.of (VG h1) (E0.of g2 (E0.of (Vs h3) a)),by rw[b4];cases nd;rfl,by omega,fun _=>by omega⟩
  ·rename_i hm;cases h;exact⟨hq,rfl,Nat.le_refl _,fun x=>absurd ⟨x,hq⟩ hm⟩
theorem kZ:∀ (n:Nat) (nd:Nd) (p:PS) (r:Nd) (q:PS),Qx T n nd p=some (r,q)→r.kind=nd.kind∧r.kids=nd.kids
 | 0,_,_,_,_,h=>by cases h
 | n+1,nd,p,r,q,h=>by
  unfold Qx at h;simp only[xoB] at h;obtain⟨t,hl,h⟩:=h;split at h
  ·simp only[xoB,xpX] at h;obtain⟨p1,h1,t',p2,h2,h3⟩:=h;obtain⟨a,b⟩:=kZ n _ _ _ _ h3;exact⟨by rw[a];cases nd;rfl,by rw[b];cases nd;rfl⟩
  ·cases h;exact⟨rfl,rfl⟩
theorem Ch{e ty:PM Nd}(he:V9 e)(hew:YZ T e)(ht:YZ T ty){p q:PS}{nd:Nd}(h:Y7 T e ty p=some (nd,q))(hq:q.e=0):p.e=0∧GD nd:=by
 have h0:=E0.of (tS hew ht _ _ _ h) hq;refine⟨h0,?_⟩;unfold Y7 at h;simp only[xoB,xoM,xpX,xpJ] at h;obtain⟨b,_,c,p1,h1,p2,h2,rfl,rfl⟩:=h;have z1:=E0.of (Zo h2) hq;split at h1
 ·unfold QS at h1;simp only[xoB,xpX] at h1;obtain⟨t0,p0,k0,t,p1',k1,n1,p2',k2,p3,k3,k4⟩:=h1;obtain⟨_,c1,_,c3⟩:=xX ht _ _ _ _ _ _ k4 z1;obtain⟨d1,d2⟩:=kZ _ _ _ _ _ k2;exact .inr ⟨by rw[c1,d1];rfl,by have:=c3 rfl;omega⟩
 ·simp only[xoB,xoM,xpX,xpJ] at h1;obtain⟨t,p3,h3,x,b',v,p4,h4,rfl,rfl⟩:=h1;have z4:p4.e=0:=z1;obtain⟨_,g⟩:=gG he h4 z4;exact .inl ⟨by cases b' <;> simp[zw,Nd.kind],by simp[zw,Nd.kids],fun y hy=>by rw[List.mem_singleton.1 hy];exact g⟩
theorem hC{e ty:PM Nd}(he:V9 e)(hew:YZ T e)(ht:YZ T ty):∀ (n:Nat) (nd:Nd) (p:PS) (r:Nd) (q:PS),YV T e ty n nd p=some (r,q)→q.e=0→p.e=0∧((∀ c∈nd.kids,GD c)→∀ c∈r.kids,GD c)
 | 0,_,_,_,_,h,_=>by cases h
 | n+1,nd,p,r,q,h,hq=>by
  unfold YV at h;simp only[xoB] at h;obtain⟨a,_,b,_,h⟩:=h;split at h
  ·simp only[xoB,xpX] at h;obtain⟨p1,h1,c,p2,h2,h4⟩:=h;obtain⟨a,b⟩:=hC he hew ht n _ _ _ _ h4 hq;obtain⟨a2,b2⟩:=Ch he hew ht h2 a;refine⟨E0.of (VG h1) a2,fun x=>b (fun y hy=>?_)⟩;cases nd with
   | mk k t m a ns ks =>
    simp only[Nd.addKid,Nd.kids,List.mem_append,List.mem_singleton] at hy;rcases hy with hy | rfl
    ·exact x y hy
    ·exact b2
  ·cases h;exact⟨hq,id⟩
theorem uJ{n:Nd}{a:Int}(h:YI T=some (n,a,0)):GP n:=by
 unfold YI at h;simp only[xoM,xpX] at h;obtain⟨r,q,h,hr⟩:=h;unfold KA at h;simp only[xoB,xoM,xpX,xpJ] at h;obtain⟨t,k1,x,p1,k2,p2,k3,u,p3,k4,t',k5,p4,k6,rfl,rfl⟩:=h;split at hr
 ·rename_i z;cases hr;have g6:E0 p3 p4:=by
   split at k6
   ·exact E0.of (T:=T) (Vv (by decide) k6 0)
   ·cases k6;exact id
  obtain⟨a4,b4⟩:=G4 (y8 42) _ _ _ k4 (g6 z);obtain⟨_,b⟩:=hC (y8 42) (Bx 42) (tC 42) _ _ _ _ _ k2 (E0.of (Zo k3) a4);exact⟨x.kids,u,by cases x;rfl,b (fun c hc=>by cases hc),b4⟩
 ·rename_i z;simp only[xpJ] at hr;exact absurd hr.2.2 z
end Go.AL
namespace Go.AL
theorem Ug:∀ {l r:List Nd},qn l r=true→∀ a∈l,∃ b∈r,Zg a b=true
 | [],[],_,a,ha=>by cases ha
 | [],_::_,h,_,_=>by simp[qn] at h
 | _::_,[],h,_,_=>by simp[qn] at h
 | x::l,y::r,h,a,ha=>by
  simp only[qn,XT] at h;rcases List.mem_cons.1 ha with rfl | ha
  ·exact⟨y,List.mem_cons_self,h.1⟩
  ·obtain⟨b,hb,e⟩:=Ug h.2 a ha;exact⟨b,List.mem_cons_of_mem _ hb,e⟩
theorem xK{b:Nd}(h:GE b):∀ {a:Nd},Zg a b=true→GE a:=by
 induction h with
 | mk b hc hk ih =>
  intro a hs;have p:=XW hs;have hl:=UA hs;refine .mk a (fun c hc=>?_) ?_
  ·obtain⟨e,he,hce⟩:=Ug p.2.2.2.2 c hc;exact ih e he hce
  ·rw[p.1,p.2.1,hl];exact hk
theorem oE{a b:Nd}(hs:Zg a b=true)(h:GD b):GD a:=by
 have p:=XW hs;have hl:=UA hs;unfold GD at h ⊢;rw[p.1,hl];rcases h with⟨h1,h2,h3⟩ | h
 ·refine .inl ⟨h1,h2,fun c hc=>?_⟩;obtain⟨e,he,hce⟩:=Ug p.2.2.2.2 c hc;exact xK (h3 e he) hce
 ·exact .inr h
theorem DK:∀ {l ds:List Nd} {e:Nd},qn l (ds++[e])=true→∃ ds' e',l=ds'++[e']∧qn ds' ds=true∧Zg e' e=true
 | [],[],e,h=>by simp[qn] at h
 | [],_::_,e,h=>by simp[qn] at h
 | x::l,[],e,h=>by
  simp only[xnA,qn,XT] at h;cases l with
  | nil=>exact⟨[],x,rfl,rfl,h.1⟩
  | cons y l=>simp[qn] at h
 | x::l,d::ds,e,h=>by
  simp only[xcA,qn,XT] at h;obtain⟨ds',e',rfl,h1,h2⟩:=DK h.2;exact⟨x::ds',e',rfl,by simp only[qn,XT];exact⟨h.1,h1⟩,h2⟩
theorem lJ{a b:Nd}(hs:Zg a b=true)(h:GP b):GP a:=by
 obtain⟨ds,e,hk,hd,he⟩:=h;have p:=(XW hs).2.2.2.2;rw[hk] at p;obtain⟨ds',e',hk',h1,h2⟩:=DK p;refine⟨ds',e',hk',fun c hc=>?_,xK he h2⟩;obtain⟨x,hx,hcx⟩:=Ug h1 c hc;exact oE hcx (hd x hx)
theorem jo{s:Tx}{n:Nd}{a:Int}(h:qp s=some (n,a,0)):GP n:=by
 unfold qp at h;cases hl:X8 s with
 | error x =>
  obtain⟨b,f⟩:=x;rw[hl] at h;simp only[xsJ,xpJ] at h;exact absurd h.2.2 (Wa hl)
 | ok T=>rw[hl] at h;exact uJ h
def Z':Nat→Nd→Nd
 | 0,n =>.mk n.kind (n.text.take 300) n.num n.pos ((n.names.take 6).map fun s=>s.take 300) []
 | d+1,n =>.mk n.kind (n.text.take 300) n.num n.pos ((n.names.take 6).map fun s=>s.take 300) ((n.kids.take 5).map (Z' d))
theorem BF:∀ (d:Nat) (n:Nd),Fit (Z' d n)
 | 0,n =>.mk _ (fun c hc=>by cases hc) (by simp[Z',Nd.kids]) (by simp[Z',Nd.names];omega) (by simp[Z',Nd.text];omega)
 | d+1,n =>.mk _ (fun c hc=>by
   obtain⟨x,_,rfl⟩:=List.mem_map.1 (show c∈(n.kids.take 5).map (Z' d) from hc);exact BF d x) (by simp[Z',Nd.kids];omega) (by simp[Z',Nd.names];omega) (by simp[Z',Nd.text];omega)
theorem BW:∀ (d:Nat) (n:Nd),Dep (d+1) (Z' d n)
 | 0,n =>.mk _ _ fun c hc=>by cases hc
 | d+1,n =>.mk _ _ fun c hc=>by
   obtain⟨x,_,rfl⟩:=List.mem_map.1 (show c∈(n.kids.take 5).map (Z' d) from hc);exact BW d x
theorem pA:∀ (d:Nat) (n:Nd),Nr n→Nr (Z' d n)
 | 0,n,h =>.mk _ (fun c hc=>by cases hc) h.num
 | d+1,n,h =>.mk _ (fun c hc=>by
   obtain⟨x,hx,rfl⟩:=List.mem_map.1 (show c∈(n.kids.take 5).map (Z' d) from hc);exact pA d x (h.kids x (List.mem_of_mem_take hx))) h.num
theorem Fx(m:Nat):∀ (l:List Tx),(∀ s∈l,s.length≤m)→Q7 l≤l.length*(m+1)
 | [],_=>by simp[Q7]
 | a::r,h=>by
  have h1:=h a List.mem_cons_self;have h2:=Fx m r fun s hs=>h s (List.mem_cons_of_mem _ hs);have e:Q7 (a::r)=a.length+1+Q7 r:=by simp[Q7]
  rw[e,xlC,Nat.succ_mul];omega
theorem th(m:Nat):∀ (l:List Nd),(∀ s∈l,wt s≤m)→Xt l≤l.length*m
 | [],_=>by simp[Xt]
 | a::r,h=>by
  have h1:=h a List.mem_cons_self;have h2:=th m r fun s hs=>h s (List.mem_cons_of_mem _ hs);simp only[Xt,xlC,Nat.succ_mul];omega
theorem Gl(n:Nd):Q7 ((n.names.take 6).map fun s=>s.take 300)≤1806:=by
 have h:=Fx 300 ((n.names.take 6).map fun s=>s.take 300) fun s hs=>by
  obtain⟨x,_,rfl⟩:=List.mem_map.1 hs;simp;omega
 have hl:((n.names.take 6).map fun s=>s.take 300).length≤6:=by simp;omega
 have:=Nat.mul_le_mul_right 301 hl;omega
theorem hF:∀ (d:Nat) (n:Nd),wt (Z' d n)≤2107*6 ^ d
 | 0,n=>by
  have h1:=Gl n;have h2:(n.text.take 300).length≤300:=by simp;omega
  simp only[Z',wt,Xt];omega
 | d+1,n=>by
  have h1:=Gl n;have h2:(n.text.take 300).length≤300:=by simp;omega
  have h3:=th (2107*6 ^ d) ((n.kids.take 5).map (Z' d)) fun s hs=>by
   obtain⟨x,_,rfl⟩:=List.mem_map.1 hs;exact hF d x
  have hl:((n.kids.take 5).map (Z' d)).length≤5:=by simp;omega
  have h4:=Nat.mul_le_mul_right (2107*6 ^ d) hl;have h5:0<6 ^ d:=Nat.pow_pos (by decide);simp only[Z',wt,Nat.pow_succ];omega
theorem ua(d:Nat)(n:Nd):(qR d (Z' 6 n)).length≤140737488355328:=by
 have h1:=FW d (Z' 6 n);have h2:=hF 6 n;omega
end Go.AL
