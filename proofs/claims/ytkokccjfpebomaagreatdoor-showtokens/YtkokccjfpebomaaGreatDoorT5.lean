/- The parser on a text's tokens: types, declarations, programs. -/
import Derived.Test.YtkokccjfpebomaaGreatDoorT4
import Derived.Test.YtkokccjfpebomaaGreatDoorS5
set_option linter.all false
namespace Go.AL
variable {T:List Tk}
def tI(x:Tk):Prop:=x.kind≠3∧isT x [40]=false
def UT(T:List Tk)(g:PM Nd)(r:Nat)(l:List Tk)(n:Nd):Prop:=∀ p x R,p.e=0→p.deep+r≤40→Tl T p.pos (l++x::R)→tI x→∃ n',g p=some (n',zV p l.length)∧Zg n' n=true
theorem jD{N r:Nat}{X:Nd→List Tk}{x:Tk}{R:List Tk}(hx:tI x):∀ (ks:List Nd) (nd:Nd) (p:PS) (k:Nat),(∀ c∈ks,(c.kids=[]→∃ t a,c = .mk 27 t 0 a [] []∧X c=[nm t])∧(c.kids≠[]→1≤r∧UT T (F3 T N) (r-1) (X c) c))→T.length≤p.pos+k→p.e=0→p.deep+r≤40→Tl T p.pos (KD X ks++x::R) →
  ∃ ks',va T (F3 T N) k nd p=some (nd.addKids ks',zV p (KD X ks).length)∧qn ks' ks=true
 | [],nd,p,k,_,hk,he,hd,h=>by
  have hlen:=h.len;obtain⟨k,rfl⟩:∃ j,k=j+1:=⟨k-1,by simp[KD] at hlen;omega⟩;refine⟨[],?_,rfl⟩;obtain⟨t,h1,h2⟩:=qq he h;unfold va;rw[h1,xbS,if_neg (by rw[(X7 h2).1];exact hx.1),Jo he h,xbS,hx.2];cases nd;simp[Nd.addKids,KD,zV]
 | c::ks,nd,p,k,hg,hk,he,hd,h=>by
  have hlen:=h.len;obtain⟨k,rfl⟩:∃ j,k=j+1:=⟨k-1,by omega⟩;have gc:=hg c List.mem_cons_self;by_cases h0:c.kids=[]
  ·obtain⟨t,a,e1,e2⟩:=gc.1 h0;have et:KD X (c::ks)=nm t::KD X ks:=by
    show (if 0<c.kids.length then _ else X c)++_=_;rw[if_neg (by rw[h0];decide),e2];rfl
   rw[et] at h ⊢;have h:Tl T p.pos (nm t::(KD X ks++x::R)):=h;obtain⟨t1,c1,c2⟩:=qq he h;obtain⟨t2,d1,d2⟩:=Qa he h (by show (3:Int)≠0;decide);have z:=X7 c2;obtain⟨ks',g3,g4⟩:=jD hx ks (nd.addKid (zw 27 t1.pos t1.text [])) (zV p 1) k (fun z hz=>hg z (List.mem_cons_of_mem _ hz)) (by rw[X5];omega) he hd h.next;refine⟨zw 27 t1.pos t1.text []::ks',?_,ZA (by rw[e1,z.2.1];exact JC 27 t 0 _ _) g4⟩;unfold va;rw[c1,xbS,if_pos (show t1.kind=3 from z.1),d1,xbS];dsimp only;rw[g3,Zj];cases nd;simp[Nd.addKid,Nd.addKids,Nat.add_comm]
  ·obtain⟨hr,gu⟩:=gc.2 h0;have et:KD X (c::ks)=sg [40]::(X c++sg [41]::KD X ks):=by
    show (if 0<c.kids.length then _ else X c)++_=_;rw[if_pos (List.length_pos_iff.2 h0)];simp
   rw[et] at h ⊢;have h:Tl T p.pos (sg [40]::(X c++sg [41]::(KD X ks++x::R))):=by simpa using h
   obtain⟨t1,c1,c2⟩:=qq he h;have z:=X7 c2;have e1:=Zx he h (s:=[40]) rfl;have h6:=h.next;obtain⟨c',g1,g2⟩:=gu { p with pos:=p.pos+1,deep:=p.deep+1 } (sg [41]) _ he (by show p.deep+1+(r-1)≤40;omega) h6 ⟨by decide,by decide⟩;have g3:=Jn (T:=T) (p:=zV p 1) (k:=(X c).length) he (by show p.deep<40;omega) g1;have h7:=h6.skip;have e2:=Zx (p:=zV (zV p 1) (X c).length) (s:=[41]) he h7 rfl;obtain⟨ks',g4,g5⟩:=jD hx ks (nd.addKid c') (zV (zV (zV p 1) (X c).length) 1) k (fun z hz=>hg z (List.mem_cons_of_mem _ hz)) (by simp only[X5];omega) he hd h7.next;refine⟨c'::ks',?_,ZA g2 g5⟩;unfold va;rw[c1,xbS,if_neg (by rw[z.1];decide),Jo he h,xbS,if_pos (show isT (sg [40]) [40]=true from rfl)];unfold Yl;rw[e1,xbS,g3,xbS,e2,xmS,xbS];dsimp only;rw[g4];simp only[Zj,xlC,xlA];have e:(nd.addKid c').addKids ks'=nd.addKids (c'::ks'):=by cases nd;simp[Nd.addKid,Nd.addKids]
   rw[e];congr 3;omega
theorem A5{r:Nat}{n:Nd}(h:WT r n):∀ d,Dep d n→∀ N,r≤N→UT T (F3 T (N+1)) r (Dr d n) n:=by
 induction h with
 | mk r t a ks h h1 h2 h3 i2 i3 =>
  intro d hd N hN p x R he hdp htl hx;obtain⟨d,rfl⟩:=hd.pos;have hk:=hd.kids;have htl:Tl T p.pos (nm t::(KD (Dr d) ks++x::R)):=htl;obtain⟨t2,d1,d2⟩:=Jb he htl (by show (3:Int)≠0;decide);have z:=X7 d2;obtain⟨ks',g1,g2⟩:=jD (N:=N) (r:=r) hx ks (zw 27 t2.pos t2.text []) (zV p 1) (T.length+2) (fun c hc=>by
   refine⟨fun h0=>?_,fun h0=>⟨h1 c hc h0,?_⟩⟩
   ·have:=h3 c hc h0;cases this with
    | mk _ t' a' ks'' hn _ _ _ =>
     simp only[Nd.kids] at h0;subst h0;obtain⟨d',rfl⟩:=(hk _ hc).pos;exact⟨t',a',rfl,rfl⟩
   ·have hr:=h1 c hc h0;obtain⟨M,rfl⟩:∃ M,N=M+1:=⟨N-1,by omega⟩;exact i2 c hc h0 d (hk c hc) M (by omega)) (by rw[X5];omega) he hdp htl.next
  refine⟨(zw 27 t2.pos t2.text []).addKids ks',?_,by rw[z.2.1];exact Yy rfl rfl rfl rfl g2⟩;show bQ T (F3 T N) p=_;unfold bQ;rw[show Qy T 3 p=some (t2,zV p 1) from d1,xbS];dsimp only;rw[g1,Zj];simp[Dr,Nd.kids,Nd.text,Nat.add_comm]
def rp(x:Tk):Prop:=tI x∧isT x [111,102]=false∧isT x [44]=false
theorem ww{r:Nat}{d:Nat}{e:PM Nd}{x:Tk}{R:List Tk}(hx:rp x):∀ (ks:List Nd) (c:Nd) (j:Nat) (nd:Nd) (p:PS) (k:Nat),(∀ z∈c::ks,UT T e r (Dr d z) z∧∃ t l,Dr d z=t::l)→nd.kids.length+ks.length+1≤4→T.length≤p.pos+k→p.e=0→p.deep+(r+1)≤40→Tl T p.pos (Dr d c++(V4 d (j+1) ks++x::R)) →
  ∃ ks',U1 T e k true nd p=some (nd.addKids ks',zV p (Dr d c++V4 d (j+1) ks).length)∧qn ks' (c::ks)=true
 | ks,c,j,nd,p,k,hg,hl,hk,he,hd,h=>by
  obtain⟨gc,t0,l0,e0⟩:=hg c List.mem_cons_self;have hpos:1≤(Dr d c).length:=by rw[e0];simp
  have hlen:p.pos<T.length:=by
   obtain⟨y,R',ey⟩:=WB (V4 d (j+1) ks) x R;have h':=h;rw[ey] at h';have:=h'.len;omega
  obtain⟨k,rfl⟩:∃ i,k=i+1:=⟨k-1,by omega⟩;have hkl:∀ c',(nd.addKid c').kids.length=nd.kids.length+1:=fun c'=>by cases nd;simp[Nd.addKid,Nd.kids]
  have hak:∀ c' ks',(nd.addKid c').addKids ks'=nd.addKids (c'::ks'):=fun c' ks'=>by cases nd;simp[Nd.addKid,Nd.addKids]
  have hm:ZO T (nd.kids.length:Int) 4 p=some p:=W9 (by omega);unfold U1;rw[if_pos ⟨rfl,he⟩,hm,xbS];cases ks with
  | nil =>
   have h:Tl T p.pos (Dr d c++x::R):=by simpa[V4] using h
   obtain⟨c',g1,g2⟩:=gc { p with deep:=p.deep+1 } x R he (by show p.deep+1+r≤40;omega) h hx.1;have g3:=Jn (T:=T) (p:=p) (k:=(Dr d c).length) he (by omega) g1;have h7:=h.skip;have hlen2:=h.len;refine⟨[c'],?_,ZA g2 rfl⟩;obtain⟨k,rfl⟩:∃ i,k=i+1:=⟨k-1,by omega⟩;rw[g3,xbS,J6 (p:=zV p (Dr d c).length) he h7 hx.2.2,xbS];dsimp only;unfold U1;rw[if_neg (by simp)];simp[V4];cases nd;simp[Nd.addKid,Nd.addKids]
  | cons c2 ks =>
   have h:Tl T p.pos (Dr d c++sg [44]::(Dr d c2++(V4 d (j+1+1) ks++x::R))):=by
    have e:V4 d (j+1) (c2::ks)=sg [44]::(Dr d c2++V4 d (j+1+1) ks):=by
     show (if j+1=0 then _ else _)::_=_;rw[if_neg (by omega)]
    rw[e] at h;simpa using h
   obtain⟨c',g1,g2⟩:=gc { p with deep:=p.deep+1 } (sg [44]) _ he (by show p.deep+1+r≤40;omega) h ⟨by decide,by decide⟩;have g3:=Jn (T:=T) (p:=p) (k:=(Dr d c).length) he (by omega) g1;have h7:=h.skip;simp only[xlC] at hl;obtain⟨ks',g4,g5⟩:=ww hx ks c2 (j+1) (nd.addKid c') (zV (zV p (Dr d c).length) 1) k (fun z hz=>hg z (List.mem_cons_of_mem _ hz)) (by rw[hkl];omega) (by simp only[X5];omega) he hd h7.next;refine⟨c'::ks',?_,ZA g2 g5⟩;rw[g3,xbS,Va (p:=zV p (Dr d c).length) (s:=[44]) he h7 rfl,xbS];dsimp only;rw[g4,hak];have e:V4 d (j+1) (c2::ks)=sg [44]::(Dr d c2++V4 d (j+1+1) ks):=by
    show (if j+1=0 then _ else _)::_=_;rw[if_neg (by omega)]
   rw[e];simp only[Zj,xlC,xlA];congr 3;omega
theorem gV{r N d:Nat}{n:Nd}(h:WC r n)(hd:Dep (d+1) n)(hN:r≤N){p:PS}{x:Tk}{R:List Tk}(he:p.e=0)(hdp:p.deep+r≤40)(htl:Tl T p.pos (B7 d n++x::R))(hx:rp x):∃ n',E8 T (F3 T N) p=some (n',zV p (B7 d n).length)∧Zg n' n=true:=by
 obtain⟨t,a,ks,rfl,h1,h2,h3⟩:=h;have hk:=hd.kids;simp only[Nd.kids] at hk;have htl:Tl T p.pos (cn t::(V4 d 0 ks++x::R)):=htl;obtain⟨t2,d1,d2⟩:=Jb he htl (by show (4:Int)≠0;decide);have z:=X7 d2;have h6:=htl.next;unfold E8;rw[show Qy T 4 p=some (t2,zV p 1) from d1,xbS];dsimp only;cases ks with
 | nil =>
  have h6:Tl T (p.pos+1) (x::R):=h6;refine⟨zw 26 t2.pos t2.text [],?_,by rw[z.2.1];exact JC 26 t 0 _ _⟩;rw[J6 (p:=zV p 1) he h6 hx.2.1,xbS];rfl
 | cons c ks =>
  have h6:Tl T (p.pos+1) (ky [111,102]::(Dr d c++(V4 d (0+1) ks++x::R))):=by simpa[V4] using h6
  obtain⟨hr,_⟩:=h3 c List.mem_cons_self;obtain⟨M,rfl⟩:∃ M,N=M+1:=⟨N-1,by omega⟩;obtain⟨ks',g1,g2⟩:=ww (r:=r-1) (d:=d) (e:=F3 T (M+1)) hx ks c 0 (zw 26 t2.pos t2.text []) (zV (zV p 1) 1) (T.length+2) (fun z hz=>by
   refine⟨A5 (h3 z hz).2 d (hk z hz) M (by omega),?_⟩;obtain⟨d',rfl⟩:=(hk z hz).pos;exact⟨_,_,rfl⟩) (by simp[zw,Nd.kids] at h2 ⊢;omega) (by simp only[X5];omega) he (by show p.deep+(r-1+1)≤40;omega) h6.next
  refine⟨(zw 26 t2.pos t2.text []).addKids ks',?_,by rw[z.2.1];exact Yy rfl rfl rfl rfl g2⟩;rw[Va (p:=zV p 1) (s:=[111,102]) he h6 rfl,xbS,if_pos rfl];dsimp only;rw[g1];have e:B7 d (.mk 26 t 0 a [] (c::ks))=cn t::ky [111,102]::(Dr d c++V4 d (0+1) ks):=rfl;rw[e];simp only[Zj,xlC,xlA];congr 3;omega
theorem GS{x:Tk}{R:List Tk}(hx:x.kind≠3):∀ (ns:List Tx) (t:Tx) (a:Int) (ns0:List Tx) (p:PS) (k:Nat),ns0.length+ns.length≤4→T.length≤p.pos+k→p.e=0→Tl T p.pos (ns.map nm++x::R) →
  Qx T k (.mk 25 t 0 a ns0 []) p=some (.mk 25 t 0 a (ns0++ns) [],zV p ns.length)
 | [],t,a,ns0,p,k,hl,hk,he,h=>by
  have hlen:=h.len;obtain⟨k,rfl⟩:∃ i,k=i+1:=⟨k-1,by simp at hlen;omega⟩;obtain⟨t1,c1,c2⟩:=qq he h;unfold Qx;rw[c1,xbS,if_neg (by rw[(X7 c2).1];exact hx)];simp[zV]
 | s::ns,t,a,ns0,p,k,hl,hk,he,h=>by
  have hlen:=h.len;obtain⟨k,rfl⟩:∃ i,k=i+1:=⟨k-1,by omega⟩;have h:Tl T p.pos (nm s::(ns.map nm++x::R)):=h;obtain⟨t1,c1,c2⟩:=qq he h;obtain⟨t2,d1,d2⟩:=Qa he h (by show (3:Int)≠0;decide);simp only[xlC] at hl;have g:=GS hx ns t a (ns0++[s]) (zV p 1) k (by simp;omega) (by rw[X5];omega) he h.next;unfold Qx;rw[c1,xbS,if_pos (show t1.kind=3 from (X7 c2).1),W9 (by show ((ns0.length:Nat):Int)<4;omega),xbS,d1,xbS];show Qx T k (.mk 25 t 0 a (ns0++[t2.text]) []) (zV p 1)=_;rw[(X7 d2).2.1];show Qx T k (.mk 25 t 0 a (ns0++[s]) []) (zV p 1)=_;rw[g,Zj];simp[Nat.add_comm]
theorem F5{r N d:Nat}{R:List Tk}(hN:r≤N):∀ (ks:List Nd) (c:Nd) (j:Nat) (nd:Nd) (p:PS) (k:Nat),(∀ z∈c::ks,WC r z∧Dep (d+1) z)→nd.kids.length+ks.length+1≤20→T.length≤p.pos+k→p.e=0→p.deep+r≤40→Tl T p.pos (B7 d c++(Wq d (j+1) ks++sg [59]::R)) →
  ∃ ks',YP T (F3 T N) k true nd p=some (nd.addKids ks',zV p (B7 d c++Wq d (j+1) ks).length)∧qn ks' (c::ks)=true
 | ks,c,j,nd,p,k,hg,hl,hk,he,hd,h=>by
  have gc:=hg c List.mem_cons_self;have hpos:1≤(B7 d c).length:=by simp[B7]
  have hlen:p.pos<T.length:=by
   obtain⟨y,R',ey⟩:=WB (Wq d (j+1) ks) (sg [59]) R;have h':=h;rw[ey] at h';have:=h'.len;omega
  obtain⟨k,rfl⟩:∃ i,k=i+1:=⟨k-1,by omega⟩;have hkl:∀ c',(nd.addKid c').kids.length=nd.kids.length+1:=fun c'=>by cases nd;simp[Nd.addKid,Nd.kids]
  have hak:∀ c' ks',(nd.addKid c').addKids ks'=nd.addKids (c'::ks'):=fun c' ks'=>by cases nd;simp[Nd.addKid,Nd.addKids]
  have hm:ZO T (nd.kids.length:Int) 20 p=some p:=W9 (by omega);unfold YP;rw[if_pos ⟨rfl,he⟩,hm,xbS];cases ks with
  | nil =>
   have h:Tl T p.pos (B7 d c++sg [59]::R):=by simpa[Wq] using h
   obtain⟨c',g1,g2⟩:=gV gc.1 gc.2 hN he hd h ⟨⟨by decide,by decide⟩,by decide,by decide⟩;have h7:=h.skip;have hlen2:=h.len;refine⟨[c'],?_,ZA g2 rfl⟩;obtain⟨k,rfl⟩:∃ i,k=i+1:=⟨k-1,by omega⟩;rw[g1,xbS,J6 (p:=zV p (B7 d c).length) (s:=[124]) he h7 rfl,xbS];dsimp only;unfold YP;rw[if_neg (by simp)];simp[Wq];cases nd;simp[Nd.addKid,Nd.addKids]
  | cons c2 ks =>
   have e:Wq d (j+1) (c2::ks)=sg [124]::(B7 d c2++Wq d (j+1+1) ks):=by
    show (if 0<j+1 then [sg [124]] else [])++_=_;rw[if_pos (by omega)];rfl
   have h:Tl T p.pos (B7 d c++sg [124]::(B7 d c2++(Wq d (j+1+1) ks++sg [59]::R))):=by
    rw[e] at h;simpa using h
   obtain⟨c',g1,g2⟩:=gV gc.1 gc.2 hN he hd h ⟨⟨by decide,by decide⟩,by decide,by decide⟩;have h7:=h.skip;simp only[xlC] at hl;obtain⟨ks',g4,g5⟩:=F5 hN ks c2 (j+1) (nd.addKid c') (zV (zV p (B7 d c).length) 1) k (fun z hz=>hg z (List.mem_cons_of_mem _ hz)) (by rw[hkl];omega) (by simp only[X5];omega) he hd h7.next;refine⟨c'::ks',?_,ZA g2 g5⟩;rw[g1,xbS,Va (p:=zV p (B7 d c).length) (s:=[124]) he h7 rfl,xbS];dsimp only;rw[g4,hak,e];simp only[Zj,xlC,xlA];congr 3;omega
theorem jI{r:Nat}{s:Slot}{c:Nd}(h:WS r s c)(hp:s.pt=false)(hm:0≤s.m){d:Nat}(hd:Dep d c){N:Nat}(hN:r-s.d≤N):s.d≤r∧Good T N (r-s.d) s.f s.m (QN (Q1 d) c s.m (lo s.f)) c:=by
 obtain⟨h1,h2⟩:=h;refine⟨h1,(ul hp hm ?_ ?_ ?_ hd hN).1⟩
 ·rcases h2 with⟨hb,s',e,_⟩ | ⟨hb,_⟩
  ·rw[if_pos hb];omega
  ·rw[if_neg (by rw[hb];decide)];omega
 ·intro hb;rcases h2 with⟨_,s',e,g⟩ | ⟨hb',_⟩
  ·rw[e];exact wu g
  ·rw[hb] at hb';cases hb'
 ·intro hb;rcases h2 with⟨hb',_⟩ | ⟨_,g⟩
  ·rw[hb] at hb';cases hb'
  ·exact wu g
theorem tV{d:Nat}{n:Nd}(h:WD 40 n)(hd:Dep (d+2) n){p:PS}{R:List Tk}(he:p.e=0)(h0:p.deep=0)(hf:p.flat=false)(htl:Tl T p.pos (um (d+1) n++sg [59]::R)):∃ n',Y7 T (Qf T 42) (F3 T 42) p=some (n',zV p ((um (d+1) n).length+1))∧Zg n' n=true:=by
 have hk:=hd.kids;cases h with
 | val t a v hn hv =>
  obtain⟨_,g⟩:=jI (T:=T) hv rfl (by decide) (hk v (by simp[Nd.kids])) (N:=41) (by decide);have g:Good T 41 39 true 6 (QN (Q1 (d+1)) v 6 6) v:=g;have e:um (d+1) (.mk 28 t 0 a [] [v])=ky [108,101,116]::nm t::sg [61]::QN (Q1 (d+1)) v 6 6:=rfl;rw[e] at htl ⊢;generalize QN (Q1 (d+1)) v 6 6=la at g htl;have htl:Tl T p.pos (ky [108,101,116]::nm t::sg [61]::(la++sg [59]::R)):=htl;obtain⟨t1,c1,c2⟩:=Qa he htl (by decide);have h6:=htl.next;have c3:=J6 (p:={ zV p 1 with flat:=true }) (s:=[114,101,99]) he h6 rfl;obtain⟨t2,d1,d2⟩:=Jb (p:={ zV p 1 with flat:=true }) he h6 (by show (3:Int)≠0;decide);have e1:=Zx (p:=zV { zV p 1 with flat:=true } 1) (s:=[61]) he h6.next rfl;have h7:=h6.next.next;obtain⟨v',g1,g2⟩:=g.u7 { p with pos:=p.pos+1+1+1,deep:=p.deep+1,flat:=true } (sg [59]) R he rfl (by show p.deep+1+39≤40;omega) h7 (by unfold Stop;decide);have g3:=Jn (T:=T) (p:=zV (zV { zV p 1 with flat:=true } 1) 1) (k:=la.length) he (by show p.deep<40;omega) g1;have e2:=Zx (p:={ zV (zV (zV { zV p 1 with flat:=true } 1) 1) la.length with flat:=false }) (s:=[59]) he h7.skip rfl;have z2:=X7 d2;refine⟨zw 28 t1.pos t2.text [v'],?_,by rw[z2.2.1];exact H0 g2⟩;unfold Y7;rw[Jo he htl,xbS,show isT (ky [108,101,116]) [116,121,112,101]=false from rfl,if_neg (by decide),c1,xbS];unfold Q2;dsimp only;rw[c3,xbS];dsimp only;rw[show Qy T 3 { zV p 1 with flat:=true }=some (t2,_) from d1,xbS];dsimp only;rw[e1,xbS,if_neg (by simp),xbS,g3,xmS,xmS,xbS];dsimp only;rw[e2,xmS,if_neg (by simp)];congr 2
  simp only[zV,xlC,←hf];congr 1;omega
 | rc t a v hn hv hk6 =>
  obtain⟨_,g⟩:=jI (T:=T) hv rfl (by decide) (hk v (by simp[Nd.kids])) (N:=41) (by decide);have g:Good T 41 39 true 6 (QN (Q1 (d+1)) v 6 6) v:=g;have hb:VH 6 v=false:=by
   cases hb:VH 6 v with
   | false=>rfl
   | true=>have:=ah.1 hb;omega
  have ek:∃ l,QN (Q1 (d+1)) v 6 6=ky [102,117,110]::l:=by
   unfold QN;rw[hb,if_neg (by decide)];cases v with
   | mk kk kt km kp kn kks =>
    simp only[Nd.kind] at hk6;subst hk6;exact⟨_,rfl⟩
  have e:um (d+1) (.mk 29 t 0 a [] [v])=ky [108,101,116]::ky [114,101,99]::nm t::sg [61]::QN (Q1 (d+1)) v 6 6:=rfl;rw[e] at htl ⊢;obtain⟨lf,ef⟩:=ek;rw[ef] at g htl ⊢;have htl:Tl T p.pos (ky [108,101,116]::ky [114,101,99]::nm t::sg [61]::(ky [102,117,110]::lf++sg [59]::R)):=htl;obtain⟨t1,c1,c2⟩:=Qa he htl (by decide);have h6:=htl.next;have c3:=Va (p:={ zV p 1 with flat:=true }) (s:=[114,101,99]) he h6 rfl;obtain⟨t2,d1,d2⟩:=Jb (p:=zV { zV p 1 with flat:=true } 1) he h6.next (by show (3:Int)≠0;decide);have e1:=Zx (p:=zV (zV { zV p 1 with flat:=true } 1) 1) (s:=[61]) he h6.next.next rfl;have h7:=h6.next.next.next;have e3:=Jo (p:=zV (zV (zV { zV p 1 with flat:=true } 1) 1) 1) (x:=ky [102,117,110]) (R:=lf++sg [59]::R) he h7 [102,117,110];obtain⟨v',g1,g2⟩:=g.u7 { p with pos:=p.pos+1+1+1+1,deep:=p.deep+1,flat:=true } (sg [59]) R he rfl (by show p.deep+1+39≤40;omega) h7 (by unfold Stop;decide);have g3:=Jn (T:=T) (p:=zV (zV (zV { zV p 1 with flat:=true } 1) 1) 1) (k:=(ky [102,117,110]::lf).length) he (by show p.deep<40;omega) g1;have e2:=Zx (p:={ zV (zV (zV (zV { zV p 1 with flat:=true } 1) 1) 1) (ky [102,117,110]::lf).length with flat:=false }) (s:=[59]) he h7.skip rfl;have z2:=X7 d2;refine⟨zw 29 t1.pos t2.text [v'],?_,by rw[z2.2.1];exact H0 g2⟩;unfold Y7;rw[Jo he htl,xbS,show isT (ky [108,101,116]) [116,121,112,101]=false from rfl,if_neg (by decide),c1,xbS];unfold Q2;dsimp only;rw[c3,xbS];dsimp only;rw[show Qy T 3 (zV { zV p 1 with flat:=true } 1)=some (t2,_) from d1,xbS];dsimp only;rw[e1,xbS,if_pos ⟨rfl,by show p.deep<40;omega⟩,e3,xbS,if_pos (show isT (ky [102,117,110]) [102,117,110]=true from rfl),xbS,g3,xmS,xmS,xbS];dsimp only;rw[e2,xmS,if_pos rfl];congr 2
  simp only[zV,xlC,←hf];congr 1;omega
 | ty t a ns ks hn hns hall hl hks =>
  cases ks with
  | nil=>simp at hl
  | cons c ks =>
   have e:um (d+1) (.mk 25 t 0 a ns (c::ks))=ky [116,121,112,101]::nm t::(ns.map nm++sg [61]::(B7 (d+1) c++Wq (d+1) (0+1) ks)):=rfl;rw[e] at htl ⊢;have htl:Tl T p.pos (ky [116,121,112,101]::nm t::(ns.map nm++sg [61]::(B7 (d+1) c++(Wq (d+1) (0+1) ks++sg [59]::R)))):=by simpa using htl
   obtain⟨t1,c1,c2⟩:=Qa he htl (by decide);obtain⟨t2,d1,d2⟩:=Jb (p:=zV p 1) he htl.next (by show (3:Int)≠0;decide);have z2:=X7 d2;have h6:=htl.next.next;have g1:=GS (T:=T) (by decide) ns t2.text t1.pos [] (zV (zV p 1) 1) (T.length+2) (by simpa using hns) (by simp only[X5];omega) he h6;have h7:=h6.skip;rw[xlM] at h7;have e1:=Zx (p:=zV (zV (zV p 1) 1) ns.length) (s:=[61]) he h7 rfl;simp only[xlC] at hl;obtain⟨ks',g2,g3⟩:=F5 (T:=T) (r:=40) (N:=42) (d:=d+1) (by decide) ks c 0 (.mk 25 t2.text 0 t1.pos ns []) (zV (zV (zV (zV p 1) 1) ns.length) 1) (T.length+2) (fun z hz=>⟨hks z hz,(hk z hz).mono (Nat.le_refl _) |>.mono (Nat.le_succ _)⟩) (by simp[Nd.kids];omega) (by simp only[X5];omega) he (by show p.deep+40≤40;omega) h7.next;have h8:Tl T (p.pos+1+1+ns.length+1+(B7 (d+1) c++Wq (d+1) (0+1) ks).length) (sg [59]::R):=by
    have:=Tl.skip (a:=B7 (d+1) c++Wq (d+1) (0+1) ks) (b:=sg [59]::R) (by simpa using h7.next);exact this
   have e2:=Zx (p:=zV (zV (zV (zV (zV p 1) 1) ns.length) 1) (B7 (d+1) c++Wq (d+1) (0+1) ks).length) (s:=[59]) he h8 rfl;refine⟨(Nd.mk 25 t2.text 0 t1.pos ns []).addKids ks',?_,by rw[z2.2.1];exact Yy rfl rfl rfl rfl g3⟩;unfold Y7;rw[Jo he htl,xbS,if_pos (show isT (ky [116,121,112,101]) [116,121,112,101]=true from rfl)];unfold QS;rw[c1,xbS];dsimp only;rw[show Qy T 3 (zV p 1)=some (t2,_) from d1,xbS];dsimp only;rw[show Qx T (T.length+2) (zw 25 t1.pos t2.text []) (zV (zV p 1) 1)=_ from g1,xbS];dsimp only;rw[e1,xbS];show (Option.bind (YP T (F3 T 42) (T.length+2) true (.mk 25 t2.text 0 t1.pos ns []) _) _)=_;rw[g2,xbS];dsimp only;rw[e2,xmS];simp only[Zj,xlC,xlA,xlM];congr 3;omega
theorem bK{d r:Nat}{n:Nd}(h:WD r n):∃ l,um d n=ky [116,121,112,101]::l∨um d n=ky [108,101,116]::l:=by
 cases h with
 | val t a v hn hv=>exact⟨_,.inr rfl⟩
 | rc t a v hn hv hk=>exact⟨_,.inr rfl⟩
 | ty t a ns ks hn hns hall hl hks=>exact⟨_,.inl rfl⟩
theorem F9{d:Nat}{R:List Tk}:∀ (ds:List Nd) (nd:Nd) (p:PS) (k:Nat),(∀ c∈ds,WD 40 c∧Dep (d+2) c)→nd.kids.length+ds.length≤60→T.length≤p.pos+k→p.e=0→p.deep=0→p.flat=false→Tl T p.pos (Wu (d+1) ds++ky [100,111]::R) →
  ∃ ks',YV T (Qf T 42) (F3 T 42) k nd p=some (nd.addKids ks',zV p (Wu (d+1) ds).length)∧qn ks' ds=true
 | [],nd,p,k,_,hl,hk,he,h0,hf,h=>by
  have hlen:=h.len;obtain⟨k,rfl⟩:∃ i,k=i+1:=⟨k-1,by simp[Wu] at hlen;omega⟩;have h:Tl T p.pos (ky [100,111]::R):=h;refine⟨[],?_,rfl⟩;unfold YV;rw[Jo he h,xbS,show isT (ky [100,111]) [116,121,112,101]=false from rfl,if_neg (by decide),Jo he h,xbS,show isT (ky [100,111]) [108,101,116]=false from rfl,if_neg (by decide)];cases nd;simp[Nd.addKids,Wu,zV]
 | c::ds,nd,p,k,hg,hl,hk,he,h0,hf,h=>by
  have hlen:=h.len;obtain⟨k,rfl⟩:∃ i,k=i+1:=⟨k-1,by omega⟩;obtain⟨gw,gd⟩:=hg c List.mem_cons_self;have h:Tl T p.pos (um (d+1) c++sg [59]::(Wu (d+1) ds++ky [100,111]::R)):=by simpa[Wu] using h
  obtain⟨c',g1,g2⟩:=tV gw gd he h0 hf h;have hkl:(nd.addKid c').kids.length=nd.kids.length+1:=by cases nd;simp[Nd.addKid,Nd.kids]
  simp only[xlC] at hl;have h7:=h.skip.next;obtain⟨ks',g3,g4⟩:=F9 ds (nd.addKid c') (zV p ((um (d+1) c).length+1)) k (fun z hz=>hg z (List.mem_cons_of_mem _ hz)) (by omega) (by rw[X5];omega) he h0 hf h7;refine⟨c'::ks',?_,ZA g2 g4⟩;have hb:(Yj T [116,121,112,101] p).bind (fun a=>if a then some true else Yj T [108,101,116] p)=some true:=by
   obtain⟨l,e | e⟩:=bK (d:=d+1) gw
   ·rw[e] at h;rw[Jo he h];rfl
   ·rw[e] at h;rw[Jo he h,xbS,show isT (ky [108,101,116]) [116,121,112,101]=false from rfl,if_neg (by decide),Jo he h];rfl
  unfold YV;rw[show ∀ (F:Bool→Option (Nd×PS)),((Yj T [116,121,112,101] p).bind fun a=>(if a=true then some true else Yj T [108,101,116] p).bind F)=((Yj T [116,121,112,101] p).bind (fun a=>if a then some true else Yj T [108,101,116] p)).bind F from fun F=>by cases Yj T [116,121,112,101] p <;> rfl,hb,xbS,if_pos rfl,W9 (by omega),xbS,g1,xbS,g3,Zj];have e:(nd.addKid c').addKids ks'=nd.addKids (c'::ks'):=by cases nd;simp[Nd.addKid,Nd.addKids]
  rw[e];simp only[Wu,xlA,xlC];congr 3;omega
theorem n8{d:Nat}{n:Nd}(h:WP n)(hd:Dep (d+2) n)(htl:Tl T 0 (oi (d+1) n++[⟨0,[],0,0⟩])):∃ m,YI T=some (m,0,0)∧Zg m n=true:=by
 obtain⟨a,ds,e,rfl,h1,h2,h3⟩:=h;have hk:=hd.kids;simp only[Nd.kids] at hk;obtain⟨_,g⟩:=jI (T:=T) h3 rfl (by decide) (hk e (by simp)) (N:=41) (by decide);have g:Good T 41 39 false 7 (QN (Q1 (d+1)) e 7 7) e:=g;have et:oi (d+1) (.mk 30 [] 0 a [] (ds++[e]))=Wu (d+1) ds++ky [100,111]::QN (Q1 (d+1)) e 7 7:=by
  unfold oi;simp only[Nd.kids,List.dropLast_concat,List.getLastD_concat]
 rw[et] at htl;generalize QN (Q1 (d+1)) e 7 7=le at g htl;have htl:Tl T 0 (Wu (d+1) ds++ky [100,111]::(le++[⟨0,[],0,0⟩])):=by simpa using htl
 obtain⟨y,R,ey⟩:=WB (Wu (d+1) ds) (ky [100,111]) (le++[⟨0,[],0,0⟩]);have hy:=htl;rw[ey] at hy;obtain⟨t,c1,_⟩:=qq (p:=⟨0,0,false,0,0⟩) rfl hy;obtain⟨ks',g1,g2⟩:=F9 (T:=T) (d:=d) ds (zw 30 t.pos [] []) ⟨0,0,false,0,0⟩ (T.length+2) (fun c hc=>⟨h2 c hc,(hk c (by simp[hc])).mono (Nat.le_succ _)⟩) (by simpa[zw,Nd.kids] using h1) (by show T.length≤0+(T.length+2);omega) rfl rfl rfl htl;have h6:=htl.skip;have e1:=Zx (p:=zV ⟨0,0,false,0,0⟩ (Wu (d+1) ds).length) (s:=[100,111]) rfl h6 rfl;have h7:=h6.next;obtain⟨e',g3,g4⟩:=g.u7 { (⟨0,0,false,0,0⟩:PS) with pos:=0+(Wu (d+1) ds).length+1,deep:=0+1 } ⟨0,[],0,0⟩ [] rfl rfl (by show 0+1+39≤40;omega) h7 (by unfold Stop;decide);have g5:=Jn (T:=T) (p:=zV (zV ⟨0,0,false,0,0⟩ (Wu (d+1) ds).length) 1) (k:=le.length) rfl (by show 0<40;omega) g3;obtain⟨t',k1,k2⟩:=qq (p:=zV (zV (zV ⟨0,0,false,0,0⟩ (Wu (d+1) ds).length) 1) le.length) rfl h7.skip;refine⟨((zw 30 t.pos [] []).addKids ks').addKid e',?_,Yy rfl rfl rfl rfl (Ld (by simpa[zw,Nd.addKids,Nd.kids] using g2) (ZA g4 rfl))⟩;unfold YI KA;rw[c1,xbS,g1,xbS];dsimp only;rw[e1,xbS,g5,xbS];dsimp only;rw[k1,xbS,if_neg (by rw[(X7 k2).1];decide),xmS,xmS];rfl
end Go.AL
namespace Go.AL
def Jy(l:List Tk):Prop:=∀ t∈l,WG t
theorem Xf:Jy []:=fun t h=>by cases h
theorem zU{t:Tk}{l:List Tk}(h:WG t)(g:Jy l):Jy (t::l):=fun x hx=>by
 rcases List.mem_cons.1 hx with rfl | hx
 ·exact h
 ·exact g x hx
theorem QM{a b:List Tk}(h:Jy a)(g:Jy b):Jy (a++b):=fun x hx=>by
 rcases List.mem_append.1 hx with hx | hx
 ·exact h x hx
 ·exact g x hx
theorem UL{t:Tx}(h:J2 t):WG (nm t):=⟨rfl,.inr ⟨rfl,.inr (.inl ⟨rfl,h⟩)⟩⟩
theorem rY{t:Tx}(h:m6 t):WG (cn t):=⟨rfl,.inr ⟨rfl,.inr (.inr (.inl ⟨rfl,h⟩))⟩⟩
theorem Xz{t:Tx}(h:t∈keysL):WG (ky t):=⟨rfl,.inr ⟨rfl,.inr (.inr (.inr (.inr ⟨rfl,h⟩)))⟩⟩
theorem xF:∀ kd∈([15,16,17,18,21,22,23,20]:List Int),qX kd∈keysL:=by decide
theorem nE:WG (sg [45,62]):=⟨rfl,.inr ⟨rfl,.inr (.inr (.inr (.inl ⟨rfl,.inl rfl⟩)))⟩⟩
theorem Jj{c:UInt8}(h:c∈signsL):WG (sg [c]):=⟨rfl,.inr ⟨rfl,.inr (.inr (.inr (.inl ⟨rfl,.inr ⟨c,h,rfl⟩⟩)))⟩⟩
theorem NR{t:Tx}(h:t∈kY):WG (sg t):=by
 simp only[kY,List.mem_cons,List.mem_nil_iff,or_false] at h;rcases h with rfl | rfl | rfl | rfl | rfl | rfl | rfl | rfl <;> exact Jj (by decide)
section
variable {X:Nd→Int→List Tk}
theorem VM{c:Nd}(h:∀ w,Jy (X c w))(m w:Int):Jy (QN X c m w):=by
 unfold QN;split
 ·exact zU (Jj (by decide)) (QM (h 7) (zU (Jj (by decide)) Xf))
 ·exact h w
theorem ab(w:Int):∀ (l:List Nd),(∀ c∈l,∀ w,Jy (X c w))→Jy (J4 X w l)
 | [],_=>Xf
 | c::l,h=>QM (VM (h c List.mem_cons_self) 0 w) (ab w l fun c hc=>h c (List.mem_cons_of_mem _ hc))
theorem N1:∀ (l:List Nd),(∀ c∈l,∀ w,Jy (X c w))→Jy (Fe X l)
 | [],_=>Xf
 | [_],_=>Xf
 | a::b::l,h=>zU (Jj (by decide)) (QM (h a List.mem_cons_self 7) (zU nE (QM (VM (h b (List.mem_cons_of_mem _ List.mem_cons_self)) 7 7) (N1 l fun c hc=>h c (List.mem_cons_of_mem _ (List.mem_cons_of_mem _ hc))))))
theorem Rr{pt f:Bool}{n:Nd}(hs:Shape pt f n)(h:∀ c∈n.kids,∀ w,Jy (X c w))(w:Int):Jy (Fr X n w):=by
 have kk:=fun t:Tk=>Xz (t:=t.text);cases hs with
 | int _ _ m a h'=>exact zU ⟨rfl,.inl ⟨rfl,rfl,h'⟩⟩ Xf
 | text _ t a h'=>exact zU ⟨rfl,.inr ⟨rfl,.inl ⟨rfl,h'⟩⟩⟩ Xf
 | unit _ a=>exact zU (Jj (by decide)) (zU (Jj (by decide)) Xf)
 | retry _ a=>exact zU (Xz (by decide)) Xf
 | any _ a=>exact zU (Jj (by decide)) Xf
 | name _ _ t a h'=>exact zU (UL h') Xf
 | con _ _ t a ks h' hl=>exact zU (rY h') (ab w ks h)
 | fn _ t a k h' =>
  have w0:=VM (h k (by simp[Nd.kids]));exact zU (Xz (by decide)) (zU (UL h') (zU nE (w0 w w)))
 | call _ a k l =>
  have w0:=VM (h k (by simp[Nd.kids]));have w1:=VM (h l (by simp[Nd.kids]));exact QM (w0 1 w) (w1 0 w)
 | lt _ t a k l h' =>
  have w0:=VM (h k (by simp[Nd.kids]));have w1:=VM (h l (by simp[Nd.kids]));exact zU (Xz (by decide)) (zU (UL h') (zU (Jj (by decide)) (QM (w0 w w) (zU (Xz (by decide)) (w1 w w)))))
 | rc _ t a k l h' hk =>
  have w0:=VM (h k (by simp[Nd.kids]));have w1:=VM (h l (by simp[Nd.kids]));exact zU (Xz (by decide)) (zU (Xz (by decide)) (zU (UL h') (zU (Jj (by decide)) (QM (w0 w w) (zU (Xz (by decide)) (w1 w w))))))
 | iff _ a k l m =>
  have w0:=VM (h k (by simp[Nd.kids]));have w1:=VM (h l (by simp[Nd.kids]));have w2:=VM (h m (by simp[Nd.kids]));exact zU (Xz (by decide)) (QM (w0 w w) (zU (Xz (by decide)) (QM (w1 w w) (zU (Xz (by decide)) (w2 w w)))))
 | mtch _ a ks hl =>
  cases ks with
  | nil=>simp at hl
  | cons k ks =>
   have w0:=VM (h k (by simp[Nd.kids]));exact zU (Xz (by decide)) (QM (w0 7 7) (zU (Xz (by decide)) (QM (N1 ks fun c hc=>h c (by simp[Nd.kids,hc])) (zU (Xz (by decide)) Xf))))
 | tr _ t a k l h' =>
  have w0:=VM (h k (by simp[Nd.kids]));have w1:=VM (h l (by simp[Nd.kids]));exact zU (Xz (by decide)) (QM (w0 7 7) (zU (Xz (by decide)) (zU (UL h') (zU nE (QM (w1 7 7) (zU (Xz (by decide)) Xf))))))
 | op _ t a k l h' =>
  have w0:=VM (h k (by simp[Nd.kids]));have w1:=VM (h l (by simp[Nd.kids]));exact QM (w0 (VN t) w) (zU (NR h') (w1 (Wv t) w))
 | sq a k l =>
  have w0:=VM (h k (by simp[Nd.kids]));have w1:=VM (h l (by simp[Nd.kids]));exact QM (w0 5 w) (zU (Jj (by decide)) (w1 7 7))
 | key1 _ kd a k h' =>
  rcases h' with rfl | rfl | rfl | rfl | rfl | rfl <;> exact zU (Xz (xF _ (by simp[Nd.kind]))) (ab w _ h)
 | key2 _ kd a k l h' =>
  rcases h' with rfl | rfl <;> exact zU (Xz (xF _ (by simp[Nd.kind]))) (ab w _ h)
end
theorem Ge:∀ (d:Nat) {pt:Bool} {r:Nat} {f:Bool} {n:Nd},WX pt r f n→Dep d n→∀ w,Jy (Q1 d n w)
 | 0,_,_,_,_,_,hd=>by cases hd
 | d+1,pt,r,f,n,h,hd=>Rr h.shape fun c hc=>by
  obtain⟨_,_,_,g⟩:=h.all c hc;exact Ge d g (hd.kids c hc)
theorem np{X:Nd→List Tk}:∀ (l:List Nd),(∀ c∈l,Jy (X c))→Jy (KD X l)
 | [],_=>Xf
 | c::l,h=>by
  refine QM ?_ (np l fun c hc=>h c (List.mem_cons_of_mem _ hc));have hc:=h c List.mem_cons_self;split
  ·exact zU (Jj (by decide)) (QM hc (zU (Jj (by decide)) Xf))
  ·exact hc
theorem NH{r:Nat}{n:Nd}(h:WT r n):∀ d,Jy (Dr d n):=by
 induction h with
 | mk r t a ks h h1 h2 h3 i2 i3 =>
  intro d;cases d with
  | zero=>exact Xf
  | succ d =>
   refine zU (UL h) (np ks fun c hc=>?_);by_cases h0:c.kids=[]
   ·exact i3 c hc h0 d
   ·exact i2 c hc h0 d
theorem rX{r d:Nat}:∀ (l:List Nd) (i:Nat),(∀ c∈l,WT r c)→Jy (V4 d i l)
 | [],i,_=>Xf
 | c::l,i,h=>by
  refine zU ?_ (QM (NH (h c List.mem_cons_self) d) (rX l (i+1) fun c hc=>h c (List.mem_cons_of_mem _ hc)));split
  ·exact Xz (by decide)
  ·exact Jj (by decide)
theorem Rl{r d:Nat}{n:Nd}(h:WC r n):Jy (B7 d n):=by
 obtain⟨t,a,ks,rfl,h1,h2,h3⟩:=h;exact zU (rY h1) (rX ks 0 fun c hc=>(h3 c hc).2)
theorem se{r d:Nat}:∀ (l:List Nd) (i:Nat),(∀ c∈l,WC r c)→Jy (Wq d i l)
 | [],i,_=>Xf
 | c::l,i,h=>by
  refine QM ?_ (QM (Rl (h c List.mem_cons_self)) (se l (i+1) fun c hc=>h c (List.mem_cons_of_mem _ hc)));split
  ·exact zU (Jj (by decide)) Xf
  ·exact Xf
theorem Rp{r d:Nat}{n:Nd}(h:WD r n)(hd:Dep (d+1) n):Jy (um d n):=by
 cases h with
 | val t a v h hv =>
  obtain⟨_,_,_,hx⟩:=hv.x;exact zU (Xz (by decide)) (zU (UL h) (zU (Jj (by decide)) (VM (Ge d hx (hd.kids v (by simp[Nd.kids]))) 6 6)))
 | rc t a v h hv hk =>
  obtain⟨_,_,_,hx⟩:=hv.x;exact zU (Xz (by decide)) (zU (Xz (by decide)) (zU (UL h) (zU (Jj (by decide)) (VM (Ge d hx (hd.kids v (by simp[Nd.kids]))) 6 6))))
 | ty t a ns ks h hn hns hl hks =>
  refine zU (Xz (by decide)) (zU (UL h) (QM (fun t ht=>?_) (zU (Jj (by decide)) (se ks 0 hks))));obtain⟨s,hs,rfl⟩:=List.mem_map.1 ht;exact UL (hns s hs)
theorem rk{r d:Nat}:∀ (l:List Nd),(∀ c∈l,WD r c∧Dep (d+1) c)→Jy (Wu d l)
 | [],_=>Xf
 | c::l,h=>QM (Rp (h c List.mem_cons_self).1 (h c List.mem_cons_self).2) (zU (Jj (by decide)) (rk l fun c hc=>h c (List.mem_cons_of_mem _ hc)))
theorem Rt{d:Nat}{n:Nd}(h:WP n)(hd:Dep (d+2) n):Jy (oi (d+1) n):=by
 obtain⟨a,ds,e,rfl,h1,h2,h3⟩:=h;obtain⟨_,_,_,hx⟩:=h3.x;unfold oi;simp only[Nd.kids,List.dropLast_concat,List.getLastD_concat];exact QM (rk (r:=40) ds fun c hc=>⟨h2 c hc,(hd.kids c (by simp[Nd.kids,hc])).mono (Nat.le_succ _)⟩) (zU (Xz (by decide)) (VM (Ge (d+1) hx (hd.kids e (by simp[Nd.kids]))) 7 7))
theorem kQ{d:Nat}{n:Nd}(h:WP n)(hd:Dep (d+2) n):∃ t r,oi (d+1) n=t::r∧qR (d+1) n=Vt t++jb r∧Jy (t::r)∧Lx (qR (d+1) n) 0 (ms t 0::KZ r (Vt t).length):=by
 have hw:=tL h hd;have hg:=Rt h hd;cases hp:oi (d+1) n with
 | nil=>rw[hp] at hw;simp[jb] at hw
 | cons t r =>
  rw[hp,qL] at hw;rw[hp] at hg;have hw:qR (d+1) n=Vt t++jb r:=by simpa using hw
  exact⟨t,r,rfl,hw,hg,by rw[hw];exact fM hg⟩
theorem bg:∀ (l:List Tk) (k:Nat),Jy l→(KZ l k).map z0=l++[⟨0,[],0,0⟩]
 | [],k,_=>rfl
 | t::r,k,h=>by
  have h0:=(h t List.mem_cons_self).1;show z0 (ms t _)::(KZ r _).map z0=_;rw[bg r _ fun x hx=>h x (List.mem_cons_of_mem _ hx)];have e:z0 (ms t ((k+1:Nat):Int))=t:=by cases t;simp only at h0;simp[z0,ms,h0]
  rw[e];rfl
mutual
theorem FT:∀ {a b:Nd},Zg a b=true→Zg b a=true
 | .mk k t m p ns ks,.mk k' t' m' p' ns' ks',h=>by
  have q:=XW h;exact Yy q.1.symm q.2.1.symm q.2.2.1.symm q.2.2.2.1.symm (Bo q.2.2.2.2)
theorem Bo:∀ {l r:List Nd},qn l r=true→qn r l=true
 | [],[],_=>rfl
 | [],_::_,h=>by simp[qn] at h
 | _::_,[],h=>by simp[qn] at h
 | a::l,b::r,h=>by
  simp only[qn,XT] at h;exact ZA (FT h.1) (Bo h.2)
end
theorem xj{s:Tx}{n:Nd}{a:Int}(h:qp s=some (n,a,0)){d:Nat}(hd:Dep (d+2) n)(hl:(qR (d+1) n).length≤2000):∃ m,qp (qR (d+1) n)=some (m,0,0)∧Zg n m=true:=by
 have hp:=J' h;obtain⟨t,r,e1,e2,e3,e4⟩:=kQ hp hd;have hlex:=xG e4 hl;have htl:Tl (ms t 0::KZ r (Vt t).length) 0 (oi (d+1) n++[⟨0,[],0,0⟩]):=by
  unfold Tl;rw[e1,List.drop_zero,List.map_cons,bg r _ fun x hx=>e3 x (List.mem_cons_of_mem _ hx)];have h0:=(e3 t List.mem_cons_self).1;have e:z0 (ms t 0)=t:=by cases t;simp only at h0;simp[z0,ms,h0]
  rw[e];rfl
 obtain⟨m,g1,g2⟩:=n8 hp hd htl;refine⟨m,?_,FT g2⟩;unfold qp;rw[hlex];exact g1
end Go.AL
namespace Go.AL
theorem gO{n:Nd}(h:WP n):0<n.kids.length:=by
 obtain⟨a,ds,e,rfl,_⟩:=h;simp[Nd.kids]
theorem m8{d:Nat}{n:Nd}(hk:0<n.kids.length)(hl:2000<(qR d n).length):JQ d n=some ([],1):=by
 unfold JQ qp X8;rw[if_neg (by omega),if_pos hl];rfl
theorem uO{s:Tx}{n:Nd}{a:Int}(h:qp s=some (n,a,0)){d:Nat}(hd:Dep (d+2) n)(hl:(qR (d+1) n).length≤2000):JQ (d+1) n=some (qR (d+1) n,0):=by
 obtain⟨m,h1,h2⟩:=xj h hd hl;unfold JQ;rw[if_neg (by have:=gO (J' h);omega),h1,xmS,if_pos ⟨rfl,h2⟩]
theorem hZ{t:Tk}(h:WG t):∃ w x,Vt t=w++[x]∧x≠32:=by
 have inner:∀ (l:Tx),l≠[]→(∀ d∈l,d≠32)→∃ w x,l=w++[x]∧x≠32:=fun l hl hd =>
  ⟨l.dropLast,l.getLast hl,(List.dropLast_concat_getLast hl).symm,hd _ (List.getLast_mem hl)⟩
 have hi:∀ d,zL d=true→d≠32:=fun d hd x=>by rw[x] at hd;revert hd;decide
 have hs:∀ d,Zb d=true∨qS d=true→d≠32:=fun d hd=>(JK hd).2.2.1;obtain⟨kind,text,num,pos⟩:=t;obtain⟨rfl,h⟩:=h;simp only at h;rcases h with⟨rfl,rfl,h⟩ | ⟨rfl,⟨rfl,h⟩ | ⟨rfl,h⟩ | ⟨rfl,h⟩ | ⟨rfl,h⟩ | ⟨rfl,h⟩⟩
 ·obtain⟨h1,h2,_⟩:=G1 h;exact inner _ h1 fun d hd=>(DL (h2 d hd)).1
 ·exact⟨34::text.flatMap qE,34,rfl,by decide⟩
 ·obtain⟨c,r,rfl,h1,h2,_⟩:=h;refine inner _ (by simp[Vt]) fun d hd=>?_;rcases List.mem_cons.1 hd with rfl | hd
  ·exact hs d (.inl h1)
  ·exact hi d (h2 d hd)
 ·obtain⟨c,r,rfl,h1,h2,_⟩:=h;refine inner _ (by simp[Vt]) fun d hd=>?_;rcases List.mem_cons.1 hd with rfl | hd
  ·exact hs d (.inr h1)
  ·exact hi d (h2 d hd)
 ·rcases h with rfl | ⟨c,hc,rfl⟩
  ·exact⟨[45],62,rfl,by decide⟩
  ·exact⟨[],c,rfl,(Gn c hc).2.2.1⟩
 ·obtain⟨c,r,e,h1,h2,_⟩:=FV text h;subst e;refine inner _ (by simp[Vt]) fun d hd=>?_;rcases List.mem_cons.1 hd with rfl | hd
  ·exact hs d (.inl h1)
  ·exact hi d (h2 d hd)
def iz(s:Tx)(T:List Tk)(i:Nat):Prop :=
 (i+2=T.length→(T.getD (i+1) F6).pos=(s.length:Int)∧1≤s.length∧s.getD (s.length-1) 0≠32) ∧
 (i+2<T.length→∃ e:Nat,(T.getD (i+1) F6).pos=(e:Int)∧2≤e∧e-1<s.length∧s.getD (e-1) 0=32∧s.getD (e-2) 0≠32∧(T.getD i F6).pos<(e:Int)-1)
theorem Gt(a b:Tx)(i:Nat):(a++b).getD (a.length+i) 0=b.getD i 0:=by
 rw[xgE,List.getElem?_append_right (by omega),Nat.add_sub_cancel_left,xgE]
theorem pf:∀ (r:List Tk) (t:Tk) (P:Tx),Jy (t::r)→∀ i,i+1<(ms t (P.length:Int)::KZ r (P.length+(Vt t).length)).length→iz (P++Vt t++jb r) (ms t (P.length:Int)::KZ r (P.length+(Vt t).length)) i
 | [],t,P,h,i,hi=>by
  obtain⟨w,x,e,hx⟩:=hZ (h t List.mem_cons_self);have hl:(Vt t).length=w.length+1:=by rw[e];simp
  simp only[KZ,xlC,xlN] at hi;obtain rfl:i=0:=by omega
  refine⟨fun _=>⟨?_,?_,?_⟩,fun h2=>by simp[KZ] at h2⟩
  ·show ((P.length+(Vt t).length:Nat):Int)=_;simp[jb]
  ·simp[jb];omega
  ·rw[ZT,xaN,e];have:(P++(w++[x])).getD ((P++(w++[x])).length-1) 0=x:=by
    rw[←xaA,show ((P++w)++[x]).length-1=(P++w).length+0 by simp];exact Gt (P++w) [x] 0
   rw[this];exact hx
 | t'::r,t,P,h,i,hi=>by
  obtain⟨w,x,e,hx⟩:=hZ (h t List.mem_cons_self);have hl:(Vt t).length=w.length+1:=by rw[e];simp
  cases i with
  | zero =>
   refine⟨fun h2=>?_,fun _=>⟨P.length+(Vt t).length+1,rfl,by omega,?_,?_,?_,?_⟩⟩
   ·exfalso;simp only[KZ,xlC] at h2;cases r <;> simp[KZ] at h2
   ·simp[qL]
   ·rw[qL,show P.length+(Vt t).length+1-1=(P++Vt t).length+0 by simp];exact Gt (P++Vt t) _ 0
   ·rw[e,show P.length+(w++[x]).length+1-2=(P++w).length+0 by simp,show P++(w++[x])++jb (t'::r)=(P++w)++([x]++jb (t'::r)) by simp];rw[Gt (P++w) ([x]++jb (t'::r)) 0];exact hx
   ·show (P.length:Int)<_;omega
  | succ i =>
   have g:=pf r t' (P++Vt t++[32]) (fun y hy=>h y (List.mem_cons_of_mem _ hy)) i (by
    simp only[KZ,xlC] at hi ⊢;have e2:(P++Vt t++[32]).length+(Vt t').length=P.length+(Vt t).length+1+(Vt t').length:=by simp;omega
    rw[e2];omega)
   have e1:P++Vt t++[32]++Vt t'++jb r=P++Vt t++jb (t'::r):=by simp[qL]
   have e2:(P++Vt t++[32]).length=P.length+(Vt t).length+1:=by simp;omega
   rw[e1,e2] at g;exact⟨fun h2=>g.1 (by simp only[KZ,xlC] at h2 ⊢;omega),fun h2=>g.2 (by simp only[KZ,xlC] at h2 ⊢;omega)⟩
theorem uN{n:Nd}(h:WP n){d:Nat}(hd:Dep (d+2) n)(hl:(qR (d+1) n).length≤2000):∃ T,X8 (qR (d+1) n) = .ok T∧2≤T.length∧∀ i,i+1<T.length→iz (qR (d+1) n) T i:=by
 obtain⟨t,r,e1,e2,e3,e4⟩:=kQ h hd;refine⟨_,xG e4 hl,?_,fun i hi=>?_⟩
 ·cases r <;> simp[KZ]
 ·have g:=pf r t [] e3 i (by simpa using hi);simpa[←e2] using g
end Go.AL
