/- The parser on a text's tokens: types, declarations, programs. -/
import Derived.Test.YtkokccjfpebomaaGreatDoorT4
import Derived.Test.YtkokccjfpebomaaGreatDoorS5
set_option linter.all false
namespace Go.AL
variable {T:List Tk}
def cS(x:Tk):Prop:=x.kind≠3∧isT x [40]=false
def UT(T:List Tk)(g:PM Nd)(r:Nat)(l:List Tk)(n:Nd):Prop:=∀ p x R,p.e=0→p.deep+r≤40→Tl T p.pos (l++x::R)→cS x→∃ n',g p=some (n',zO p l.length)∧Z3 n' n=true
theorem Lv{N r:Nat}{X:Nd→List Tk}{x:Tk}{R:List Tk}(hx:cS x):∀ (ks:List Nd) (nd:Nd) (p:PS) (k:Nat),(∀ c∈ks,(c.kids=[]→∃ t a,c = .mk 27 t 0 a [] []∧X c=[nm t])∧(c.kids≠[]→1≤r∧UT T (BC T N) (r-1) (X c) c))→T.length≤p.pos+k→p.e=0→p.deep+r≤40→Tl T p.pos (W4 X ks++x::R) →
  ∃ ks',j' T (BC T N) k nd p=some (nd.addKids ks',zO p (W4 X ks).length)∧qX ks' ks=true
 | [],nd,p,k,_,hk,he,hd,h=>by
  have hlen:=h.len;obtain⟨k,rfl⟩:∃ j,k=j+1:=⟨k-1,by simp[W4] at hlen;omega⟩;refine⟨[],?_,rfl⟩;obtain⟨t,h1,h2⟩:=qj he h;unfold j';rw[h1,xbS,if_neg (by rw[(X4 h2).1];exact hx.1),Ja he h,xbS,hx.2];cases nd;simp[Nd.addKids,W4,zO]
 | c::ks,nd,p,k,hg,hk,he,hd,h=>by
  have hlen:=h.len;obtain⟨k,rfl⟩:∃ j,k=j+1:=⟨k-1,by omega⟩;have gc:=hg c List.mem_cons_self;by_cases h0:c.kids=[]
  ·obtain⟨t,a,e1,e2⟩:=gc.1 h0;have et:W4 X (c::ks)=nm t::W4 X ks:=by
    show (if 0<c.kids.length then _ else X c)++_=_;rw[if_neg (by rw[h0];decide),e2];rfl
   rw[et] at h ⊢;have h:Tl T p.pos (nm t::(W4 X ks++x::R)):=h;obtain⟨t1,c1,c2⟩:=qj he h;obtain⟨t2,d1,d2⟩:=ZZ he h (by show (3:Int)≠0;decide);have z:=X4 c2;obtain⟨ks',g3,g4⟩:=Lv hx ks (nd.addKid (zr 27 t1.pos t1.text [])) (zO p 1) k (fun z hz=>hg z (List.mem_cons_of_mem _ hz)) (by rw[X2];omega) he hd h.next;refine⟨zr 27 t1.pos t1.text []::ks',?_,Zu (by rw[e1,z.2.1];exact Jq 27 t 0 _ _) g4⟩;unfold j';rw[c1,xbS,if_pos (show t1.kind=3 from z.1),d1,xbS];dsimp only;rw[g3,Zd];cases nd;simp[Nd.addKid,Nd.addKids,Nat.add_comm]
  ·obtain⟨hr,gu⟩:=gc.2 h0;have et:W4 X (c::ks)=sg [40]::(X c++sg [41]::W4 X ks):=by
    show (if 0<c.kids.length then _ else X c)++_=_;rw[if_pos (List.length_pos_iff.2 h0)];simp
   rw[et] at h ⊢;have h:Tl T p.pos (sg [40]::(X c++sg [41]::(W4 X ks++x::R))):=by simpa using h
   obtain⟨t1,c1,c2⟩:=qj he h;have z:=X4 c2;have e1:=Zq he h (s:=[40]) rfl;have h6:=h.next;obtain⟨c',g1,g2⟩:=gu { p with pos:=p.pos+1,deep:=p.deep+1 } (sg [41]) _ he (by show p.deep+1+(r-1)≤40;omega) h6 ⟨by decide,by decide⟩;have g3:=Jd (T:=T) (p:=zO p 1) (k:=(X c).length) he (by show p.deep<40;omega) g1;have h7:=h6.skip;have e2:=Zq (p:=zO (zO p 1) (X c).length) (s:=[41]) he h7 rfl;obtain⟨ks',g4,g5⟩:=Lv hx ks (nd.addKid c') (zO (zO (zO p 1) (X c).length) 1) k (fun z hz=>hg z (List.mem_cons_of_mem _ hz)) (by simp only[X2];omega) he hd h7.next;refine⟨c'::ks',?_,Zu g2 g5⟩;unfold j';rw[c1,xbS,if_neg (by rw[z.1];decide),Ja he h,xbS,if_pos (show isT (sg [40]) [40]=true from rfl)];unfold Y0;rw[e1,xbS,g3,xbS,e2,xmS,xbS];dsimp only;rw[g4];simp only[Zd,xlC,xlA];have e:(nd.addKid c').addKids ks'=nd.addKids (c'::ks'):=by cases nd;simp[Nd.addKid,Nd.addKids]
   rw[e];congr 3;omega
theorem aE{r:Nat}{n:Nd}(h:WT r n):∀ d,Dep d n→∀ N,r≤N→UT T (BC T (N+1)) r (EQ d n) n:=by
 induction h with
 | mk r t a ks h h1 h2 h3 i2 i3 =>
  intro d hd N hN p x R he hdp htl hx;obtain⟨d,rfl⟩:=hd.pos;have hk:=hd.kids;have htl:Tl T p.pos (nm t::(W4 (EQ d) ks++x::R)):=htl;obtain⟨t2,d1,d2⟩:=YZ he htl (by show (3:Int)≠0;decide);have z:=X4 d2;obtain⟨ks',g1,g2⟩:=Lv (N:=N) (r:=r) hx ks (zr 27 t2.pos t2.text []) (zO p 1) (T.length+2) (fun c hc=>by
   refine⟨fun h0=>?_,fun h0=>⟨h1 c hc h0,?_⟩⟩
   ·have:=h3 c hc h0;cases this with
    | mk _ t' a' ks'' hn _ _ _ =>
     simp only[Nd.kids] at h0;subst h0;obtain⟨d',rfl⟩:=(hk _ hc).pos;exact⟨t',a',rfl,rfl⟩
   ·have hr:=h1 c hc h0;obtain⟨M,rfl⟩:∃ M,N=M+1:=⟨N-1,by omega⟩;exact i2 c hc h0 d (hk c hc) M (by omega)) (by rw[X2];omega) he hdp htl.next
  refine⟨(zr 27 t2.pos t2.text []).addKids ks',?_,by rw[z.2.1];exact Yu rfl rfl rfl rfl g2⟩;show ma T (BC T N) p=_;unfold ma;rw[show Qn T 3 p=some (t2,zO p 1) from d1,xbS];dsimp only;rw[g1,Zd];simp[EQ,Nd.kids,Nd.text,Nat.add_comm]
def eR(x:Tk):Prop:=cS x∧isT x [111,102]=false∧isT x [44]=false
theorem jG{r:Nat}{d:Nat}{e:PM Nd}{x:Tk}{R:List Tk}(hx:eR x):∀ (ks:List Nd) (c:Nd) (j:Nat) (nd:Nd) (p:PS) (k:Nat),(∀ z∈c::ks,UT T e r (EQ d z) z∧∃ t l,EQ d z=t::l)→nd.kids.length+ks.length+1≤4→T.length≤p.pos+k→p.e=0→p.deep+(r+1)≤40→Tl T p.pos (EQ d c++(VK d (j+1) ks++x::R)) →
  ∃ ks',Um T e k true nd p=some (nd.addKids ks',zO p (EQ d c++VK d (j+1) ks).length)∧qX ks' (c::ks)=true
 | ks,c,j,nd,p,k,hg,hl,hk,he,hd,h=>by
  obtain⟨gc,t0,l0,e0⟩:=hg c List.mem_cons_self;have hpos:1≤(EQ d c).length:=by rw[e0];simp
  have hlen:p.pos<T.length:=by
   obtain⟨y,R',ey⟩:=V4 (VK d (j+1) ks) x R;have h':=h;rw[ey] at h';have:=h'.len;omega
  obtain⟨k,rfl⟩:∃ i,k=i+1:=⟨k-1,by omega⟩;have hkl:∀ c',(nd.addKid c').kids.length=nd.kids.length+1:=fun c'=>by cases nd;simp[Nd.addKid,Nd.kids]
  have hak:∀ c' ks',(nd.addKid c').addKids ks'=nd.addKids (c'::ks'):=fun c' ks'=>by cases nd;simp[Nd.addKid,Nd.addKids]
  have hm:ZE T (nd.kids.length:Int) 4 p=some p:=Ws (by omega);unfold Um;rw[if_pos ⟨rfl,he⟩,hm,xbS];cases ks with
  | nil =>
   have h:Tl T p.pos (EQ d c++x::R):=by simpa[VK] using h
   obtain⟨c',g1,g2⟩:=gc { p with deep:=p.deep+1 } x R he (by show p.deep+1+r≤40;omega) h hx.1;have g3:=Jd (T:=T) (p:=p) (k:=(EQ d c).length) he (by omega) g1;have h7:=h.skip;have hlen2:=h.len;refine⟨[c'],?_,Zu g2 rfl⟩;obtain⟨k,rfl⟩:∃ i,k=i+1:=⟨k-1,by omega⟩;rw[g3,xbS,JT (p:=zO p (EQ d c).length) he h7 hx.2.2,xbS];dsimp only;unfold Um;rw[if_neg (by simp)];simp[VK];cases nd;simp[Nd.addKid,Nd.addKids]
  | cons c2 ks =>
   have h:Tl T p.pos (EQ d c++sg [44]::(EQ d c2++(VK d (j+1+1) ks++x::R))):=by
    have e:VK d (j+1) (c2::ks)=sg [44]::(EQ d c2++VK d (j+1+1) ks):=by
     show (if j+1=0 then _ else _)::_=_;rw[if_neg (by omega)]
    rw[e] at h;simpa using h
   obtain⟨c',g1,g2⟩:=gc { p with deep:=p.deep+1 } (sg [44]) _ he (by show p.deep+1+r≤40;omega) h ⟨by decide,by decide⟩;have g3:=Jd (T:=T) (p:=p) (k:=(EQ d c).length) he (by omega) g1;have h7:=h.skip;simp only[xlC] at hl;obtain⟨ks',g4,g5⟩:=jG hx ks c2 (j+1) (nd.addKid c') (zO (zO p (EQ d c).length) 1) k (fun z hz=>hg z (List.mem_cons_of_mem _ hz)) (by rw[hkl];omega) (by simp only[X2];omega) he hd h7.next;refine⟨c'::ks',?_,Zu g2 g5⟩;rw[g3,xbS,JR (p:=zO p (EQ d c).length) (s:=[44]) he h7 rfl,xbS];dsimp only;rw[g4,hak];have e:VK d (j+1) (c2::ks)=sg [44]::(EQ d c2++VK d (j+1+1) ks):=by
    show (if j+1=0 then _ else _)::_=_;rw[if_neg (by omega)]
   rw[e];simp only[Zd,xlC,xlA];congr 3;omega
theorem xl{r N d:Nat}{n:Nd}(h:WC r n)(hd:Dep (d+1) n)(hN:r≤N){p:PS}{x:Tk}{R:List Tk}(he:p.e=0)(hdp:p.deep+r≤40)(htl:Tl T p.pos (GH d n++x::R))(hx:eR x):∃ n',HG T (BC T N) p=some (n',zO p (GH d n).length)∧Z3 n' n=true:=by
 obtain⟨t,a,ks,rfl,h1,h2,h3⟩:=h;have hk:=hd.kids;simp only[Nd.kids] at hk;have htl:Tl T p.pos (cn t::(VK d 0 ks++x::R)):=htl;obtain⟨t2,d1,d2⟩:=YZ he htl (by show (4:Int)≠0;decide);have z:=X4 d2;have h6:=htl.next;unfold HG;rw[show Qn T 4 p=some (t2,zO p 1) from d1,xbS];dsimp only;cases ks with
 | nil =>
  have h6:Tl T (p.pos+1) (x::R):=h6;refine⟨zr 26 t2.pos t2.text [],?_,by rw[z.2.1];exact Jq 26 t 0 _ _⟩;rw[JT (p:=zO p 1) he h6 hx.2.1,xbS];rfl
 | cons c ks =>
  have h6:Tl T (p.pos+1) (ky [111,102]::(EQ d c++(VK d (0+1) ks++x::R))):=by simpa[VK] using h6
  obtain⟨hr,_⟩:=h3 c List.mem_cons_self;obtain⟨M,rfl⟩:∃ M,N=M+1:=⟨N-1,by omega⟩;obtain⟨ks',g1,g2⟩:=jG (r:=r-1) (d:=d) (e:=BC T (M+1)) hx ks c 0 (zr 26 t2.pos t2.text []) (zO (zO p 1) 1) (T.length+2) (fun z hz=>by
   refine⟨aE (h3 z hz).2 d (hk z hz) M (by omega),?_⟩;obtain⟨d',rfl⟩:=(hk z hz).pos;exact⟨_,_,rfl⟩) (by simp[zr,Nd.kids] at h2 ⊢;omega) (by simp only[X2];omega) he (by show p.deep+(r-1+1)≤40;omega) h6.next
  refine⟨(zr 26 t2.pos t2.text []).addKids ks',?_,by rw[z.2.1];exact Yu rfl rfl rfl rfl g2⟩;rw[JR (p:=zO p 1) (s:=[111,102]) he h6 rfl,xbS,if_pos rfl];dsimp only;rw[g1];have e:GH d (.mk 26 t 0 a [] (c::ks))=cn t::ky [111,102]::(EQ d c++VK d (0+1) ks):=rfl;rw[e];simp only[Zd,xlC,xlA];congr 3;omega
theorem Gt{x:Tk}{R:List Tk}(hx:x.kind≠3):∀ (ns:List Tx) (t:Tx) (a:Int) (ns0:List Tx) (p:PS) (k:Nat),ns0.length+ns.length≤4→T.length≤p.pos+k→p.e=0→Tl T p.pos (ns.map nm++x::R) →
  QF T k (.mk 25 t 0 a ns0 []) p=some (.mk 25 t 0 a (ns0++ns) [],zO p ns.length)
 | [],t,a,ns0,p,k,hl,hk,he,h=>by
  have hlen:=h.len;obtain⟨k,rfl⟩:∃ i,k=i+1:=⟨k-1,by simp at hlen;omega⟩;obtain⟨t1,c1,c2⟩:=qj he h;unfold QF;rw[c1,xbS,if_neg (by rw[(X4 c2).1];exact hx)];simp[zO]
 | s::ns,t,a,ns0,p,k,hl,hk,he,h=>by
  have hlen:=h.len;obtain⟨k,rfl⟩:∃ i,k=i+1:=⟨k-1,by omega⟩;have h:Tl T p.pos (nm s::(ns.map nm++x::R)):=h;obtain⟨t1,c1,c2⟩:=qj he h;obtain⟨t2,d1,d2⟩:=ZZ he h (by show (3:Int)≠0;decide);simp only[xlC] at hl;have g:=Gt hx ns t a (ns0++[s]) (zO p 1) k (by simp;omega) (by rw[X2];omega) he h.next;unfold QF;rw[c1,xbS,if_pos (show t1.kind=3 from (X4 c2).1),Ws (by show ((ns0.length:Nat):Int)<4;omega),xbS,d1,xbS];show QF T k (.mk 25 t 0 a (ns0++[t2.text]) []) (zO p 1)=_;rw[(X4 d2).2.1];show QF T k (.mk 25 t 0 a (ns0++[s]) []) (zO p 1)=_;rw[g,Zd];simp[Nat.add_comm]
theorem Fc{r N d:Nat}{R:List Tk}(hN:r≤N):∀ (ks:List Nd) (c:Nd) (j:Nat) (nd:Nd) (p:PS) (k:Nat),(∀ z∈c::ks,WC r z∧Dep (d+1) z)→nd.kids.length+ks.length+1≤20→T.length≤p.pos+k→p.e=0→p.deep+r≤40→Tl T p.pos (GH d c++(V' d (j+1) ks++sg [59]::R)) →
  ∃ ks',Y7 T (BC T N) k true nd p=some (nd.addKids ks',zO p (GH d c++V' d (j+1) ks).length)∧qX ks' (c::ks)=true
 | ks,c,j,nd,p,k,hg,hl,hk,he,hd,h=>by
  have gc:=hg c List.mem_cons_self;have hpos:1≤(GH d c).length:=by simp[GH]
  have hlen:p.pos<T.length:=by
   obtain⟨y,R',ey⟩:=V4 (V' d (j+1) ks) (sg [59]) R;have h':=h;rw[ey] at h';have:=h'.len;omega
  obtain⟨k,rfl⟩:∃ i,k=i+1:=⟨k-1,by omega⟩;have hkl:∀ c',(nd.addKid c').kids.length=nd.kids.length+1:=fun c'=>by cases nd;simp[Nd.addKid,Nd.kids]
  have hak:∀ c' ks',(nd.addKid c').addKids ks'=nd.addKids (c'::ks'):=fun c' ks'=>by cases nd;simp[Nd.addKid,Nd.addKids]
  have hm:ZE T (nd.kids.length:Int) 20 p=some p:=Ws (by omega);unfold Y7;rw[if_pos ⟨rfl,he⟩,hm,xbS];cases ks with
  | nil =>
   have h:Tl T p.pos (GH d c++sg [59]::R):=by simpa[V'] using h
   obtain⟨c',g1,g2⟩:=xl gc.1 gc.2 hN he hd h ⟨⟨by decide,by decide⟩,by decide,by decide⟩;have h7:=h.skip;have hlen2:=h.len;refine⟨[c'],?_,Zu g2 rfl⟩;obtain⟨k,rfl⟩:∃ i,k=i+1:=⟨k-1,by omega⟩;rw[g1,xbS,JT (p:=zO p (GH d c).length) (s:=[124]) he h7 rfl,xbS];dsimp only;unfold Y7;rw[if_neg (by simp)];simp[V'];cases nd;simp[Nd.addKid,Nd.addKids]
  | cons c2 ks =>
   have e:V' d (j+1) (c2::ks)=sg [124]::(GH d c2++V' d (j+1+1) ks):=by
    show (if 0<j+1 then [sg [124]] else [])++_=_;rw[if_pos (by omega)];rfl
   have h:Tl T p.pos (GH d c++sg [124]::(GH d c2++(V' d (j+1+1) ks++sg [59]::R))):=by
    rw[e] at h;simpa using h
   obtain⟨c',g1,g2⟩:=xl gc.1 gc.2 hN he hd h ⟨⟨by decide,by decide⟩,by decide,by decide⟩;have h7:=h.skip;simp only[xlC] at hl;obtain⟨ks',g4,g5⟩:=Fc hN ks c2 (j+1) (nd.addKid c') (zO (zO p (GH d c).length) 1) k (fun z hz=>hg z (List.mem_cons_of_mem _ hz)) (by rw[hkl];omega) (by simp only[X2];omega) he hd h7.next;refine⟨c'::ks',?_,Zu g2 g5⟩;rw[g1,xbS,JR (p:=zO p (GH d c).length) (s:=[124]) he h7 rfl,xbS];dsimp only;rw[g4,hak,e];simp only[Zd,xlC,xlA];congr 3;omega
theorem F3{r:Nat}{s:Slot}{c:Nd}(h:WS r s c)(hp:s.pt=false)(hm:0≤s.m){d:Nat}(hd:Dep d c){N:Nat}(hN:r-s.d≤N):s.d≤r∧Good T N (r-s.d) s.f s.m (QC (QP d) c s.m (lo s.f)) c:=by
 obtain⟨h1,h2⟩:=h;refine⟨h1,(jw hp hm ?_ ?_ ?_ hd hN).1⟩
 ·rcases h2 with⟨hb,s',e,_⟩ | ⟨hb,_⟩
  ·rw[if_pos hb];omega
  ·rw[if_neg (by rw[hb];decide)];omega
 ·intro hb;rcases h2 with⟨_,s',e,g⟩ | ⟨hb',_⟩
  ·rw[e];exact wT g
  ·rw[hb] at hb';cases hb'
 ·intro hb;rcases h2 with⟨hb',_⟩ | ⟨_,g⟩
  ·rw[hb] at hb';cases hb'
  ·exact wT g
theorem dQ{d:Nat}{n:Nd}(h:WD 40 n)(hd:Dep (d+2) n){p:PS}{R:List Tk}(he:p.e=0)(h0:p.deep=0)(hf:p.flat=false)(htl:Tl T p.pos (kx (d+1) n++sg [59]::R)):∃ n',Jy T (Z7 T 42) (BC T 42) p=some (n',zO p ((kx (d+1) n).length+1))∧Z3 n' n=true:=by
 have hk:=hd.kids;cases h with
 | val t a v hn hv =>
  obtain⟨_,g⟩:=F3 (T:=T) hv rfl (by decide) (hk v (by simp[Nd.kids])) (N:=41) (by decide);have g:Good T 41 39 true 6 (QC (QP (d+1)) v 6 6) v:=g;have e:kx (d+1) (.mk 28 t 0 a [] [v])=ky [108,101,116]::nm t::sg [61]::QC (QP (d+1)) v 6 6:=rfl;rw[e] at htl ⊢;generalize QC (QP (d+1)) v 6 6=la at g htl;have htl:Tl T p.pos (ky [108,101,116]::nm t::sg [61]::(la++sg [59]::R)):=htl;obtain⟨t1,c1,c2⟩:=ZZ he htl (by decide);have h6:=htl.next;have c3:=JT (p:={ zO p 1 with flat:=true }) (s:=[114,101,99]) he h6 rfl;obtain⟨t2,d1,d2⟩:=YZ (p:={ zO p 1 with flat:=true }) he h6 (by show (3:Int)≠0;decide);have e1:=Zq (p:=zO { zO p 1 with flat:=true } 1) (s:=[61]) he h6.next rfl;have h7:=h6.next.next;obtain⟨v',g1,g2⟩:=g.u7 { p with pos:=p.pos+1+1+1,deep:=p.deep+1,flat:=true } (sg [59]) R he rfl (by show p.deep+1+39≤40;omega) h7 (by unfold Stop;decide);have g3:=Jd (T:=T) (p:=zO (zO { zO p 1 with flat:=true } 1) 1) (k:=la.length) he (by show p.deep<40;omega) g1;have e2:=Zq (p:={ zO (zO (zO { zO p 1 with flat:=true } 1) 1) la.length with flat:=false }) (s:=[59]) he h7.skip rfl;have z2:=X4 d2;refine⟨zr 28 t1.pos t2.text [v'],?_,by rw[z2.2.1];exact Hj g2⟩;unfold Jy;rw[Ja he htl,xbS,show isT (ky [108,101,116]) [116,121,112,101]=false from rfl,if_neg (by decide),c1,xbS];unfold Xh;dsimp only;rw[c3,xbS];dsimp only;rw[show Qn T 3 { zO p 1 with flat:=true }=some (t2,_) from d1,xbS];dsimp only;rw[e1,xbS,if_neg (by simp),xbS,g3,xmS,xmS,xbS];dsimp only;rw[e2,xmS,if_neg (by simp)];congr 2
  simp only[zO,xlC,←hf];congr 1;omega
 | rc t a v hn hv hk6 =>
  obtain⟨_,g⟩:=F3 (T:=T) hv rfl (by decide) (hk v (by simp[Nd.kids])) (N:=41) (by decide);have g:Good T 41 39 true 6 (QC (QP (d+1)) v 6 6) v:=g;have hb:JX 6 v=false:=by
   cases hb:JX 6 v with
   | false=>rfl
   | true=>have:=fZ.1 hb;omega
  have ek:∃ l,QC (QP (d+1)) v 6 6=ky [102,117,110]::l:=by
   unfold QC;rw[hb,if_neg (by decide)];cases v with
   | mk kk kt km kp kn kks =>
    simp only[Nd.kind] at hk6;subst hk6;exact⟨_,rfl⟩
  have e:kx (d+1) (.mk 29 t 0 a [] [v])=ky [108,101,116]::ky [114,101,99]::nm t::sg [61]::QC (QP (d+1)) v 6 6:=rfl;rw[e] at htl ⊢;obtain⟨lf,ef⟩:=ek;rw[ef] at g htl ⊢;have htl:Tl T p.pos (ky [108,101,116]::ky [114,101,99]::nm t::sg [61]::(ky [102,117,110]::lf++sg [59]::R)):=htl;obtain⟨t1,c1,c2⟩:=ZZ he htl (by decide);have h6:=htl.next;have c3:=JR (p:={ zO p 1 with flat:=true }) (s:=[114,101,99]) he h6 rfl;obtain⟨t2,d1,d2⟩:=YZ (p:=zO { zO p 1 with flat:=true } 1) he h6.next (by show (3:Int)≠0;decide);have e1:=Zq (p:=zO (zO { zO p 1 with flat:=true } 1) 1) (s:=[61]) he h6.next.next rfl;have h7:=h6.next.next.next;have e3:=Ja (p:=zO (zO (zO { zO p 1 with flat:=true } 1) 1) 1) (x:=ky [102,117,110]) (R:=lf++sg [59]::R) he h7 [102,117,110];obtain⟨v',g1,g2⟩:=g.u7 { p with pos:=p.pos+1+1+1+1,deep:=p.deep+1,flat:=true } (sg [59]) R he rfl (by show p.deep+1+39≤40;omega) h7 (by unfold Stop;decide);have g3:=Jd (T:=T) (p:=zO (zO (zO { zO p 1 with flat:=true } 1) 1) 1) (k:=(ky [102,117,110]::lf).length) he (by show p.deep<40;omega) g1;have e2:=Zq (p:={ zO (zO (zO (zO { zO p 1 with flat:=true } 1) 1) 1) (ky [102,117,110]::lf).length with flat:=false }) (s:=[59]) he h7.skip rfl;have z2:=X4 d2;refine⟨zr 29 t1.pos t2.text [v'],?_,by rw[z2.2.1];exact Hj g2⟩;unfold Jy;rw[Ja he htl,xbS,show isT (ky [108,101,116]) [116,121,112,101]=false from rfl,if_neg (by decide),c1,xbS];unfold Xh;dsimp only;rw[c3,xbS];dsimp only;rw[show Qn T 3 (zO { zO p 1 with flat:=true } 1)=some (t2,_) from d1,xbS];dsimp only;rw[e1,xbS,if_pos ⟨rfl,by show p.deep<40;omega⟩,e3,xbS,if_pos (show isT (ky [102,117,110]) [102,117,110]=true from rfl),xbS,g3,xmS,xmS,xbS];dsimp only;rw[e2,xmS,if_pos rfl];congr 2
  simp only[zO,xlC,←hf];congr 1;omega
 | ty t a ns ks hn hns hall hl hks =>
  cases ks with
  | nil=>simp at hl
  | cons c ks =>
   have e:kx (d+1) (.mk 25 t 0 a ns (c::ks))=ky [116,121,112,101]::nm t::(ns.map nm++sg [61]::(GH (d+1) c++V' (d+1) (0+1) ks)):=rfl;rw[e] at htl ⊢;have htl:Tl T p.pos (ky [116,121,112,101]::nm t::(ns.map nm++sg [61]::(GH (d+1) c++(V' (d+1) (0+1) ks++sg [59]::R)))):=by simpa using htl
   obtain⟨t1,c1,c2⟩:=ZZ he htl (by decide);obtain⟨t2,d1,d2⟩:=YZ (p:=zO p 1) he htl.next (by show (3:Int)≠0;decide);have z2:=X4 d2;have h6:=htl.next.next;have g1:=Gt (T:=T) (by decide) ns t2.text t1.pos [] (zO (zO p 1) 1) (T.length+2) (by simpa using hns) (by simp only[X2];omega) he h6;have h7:=h6.skip;rw[xlM] at h7;have e1:=Zq (p:=zO (zO (zO p 1) 1) ns.length) (s:=[61]) he h7 rfl;simp only[xlC] at hl;obtain⟨ks',g2,g3⟩:=Fc (T:=T) (r:=40) (N:=42) (d:=d+1) (by decide) ks c 0 (.mk 25 t2.text 0 t1.pos ns []) (zO (zO (zO (zO p 1) 1) ns.length) 1) (T.length+2) (fun z hz=>⟨hks z hz,(hk z hz).mono (Nat.le_refl _) |>.mono (Nat.le_succ _)⟩) (by simp[Nd.kids];omega) (by simp only[X2];omega) he (by show p.deep+40≤40;omega) h7.next;have h8:Tl T (p.pos+1+1+ns.length+1+(GH (d+1) c++V' (d+1) (0+1) ks).length) (sg [59]::R):=by
    have:=Tl.skip (a:=GH (d+1) c++V' (d+1) (0+1) ks) (b:=sg [59]::R) (by simpa using h7.next);exact this
   have e2:=Zq (p:=zO (zO (zO (zO (zO p 1) 1) ns.length) 1) (GH (d+1) c++V' (d+1) (0+1) ks).length) (s:=[59]) he h8 rfl;refine⟨(Nd.mk 25 t2.text 0 t1.pos ns []).addKids ks',?_,by rw[z2.2.1];exact Yu rfl rfl rfl rfl g3⟩;unfold Jy;rw[Ja he htl,xbS,if_pos (show isT (ky [116,121,112,101]) [116,121,112,101]=true from rfl)];unfold Q9;rw[c1,xbS];dsimp only;rw[show Qn T 3 (zO p 1)=some (t2,_) from d1,xbS];dsimp only;rw[show QF T (T.length+2) (zr 25 t1.pos t2.text []) (zO (zO p 1) 1)=_ from g1,xbS];dsimp only;rw[e1,xbS];show (Option.bind (Y7 T (BC T 42) (T.length+2) true (.mk 25 t2.text 0 t1.pos ns []) _) _)=_;rw[g2,xbS];dsimp only;rw[e2,xmS];simp only[Zd,xlC,xlA,xlM];congr 3;omega
theorem mA{d r:Nat}{n:Nd}(h:WD r n):∃ l,kx d n=ky [116,121,112,101]::l∨kx d n=ky [108,101,116]::l:=by
 cases h with
 | val t a v hn hv=>exact⟨_,.inr rfl⟩
 | rc t a v hn hv hk=>exact⟨_,.inr rfl⟩
 | ty t a ns ks hn hns hall hl hks=>exact⟨_,.inl rfl⟩
theorem Br{d:Nat}{R:List Tk}:∀ (ds:List Nd) (nd:Nd) (p:PS) (k:Nat),(∀ c∈ds,WD 40 c∧Dep (d+2) c)→nd.kids.length+ds.length≤60→T.length≤p.pos+k→p.e=0→p.deep=0→p.flat=false→Tl T p.pos (V5 (d+1) ds++ky [100,111]::R) →
  ∃ ks',Y' T (Z7 T 42) (BC T 42) k nd p=some (nd.addKids ks',zO p (V5 (d+1) ds).length)∧qX ks' ds=true
 | [],nd,p,k,_,hl,hk,he,h0,hf,h=>by
  have hlen:=h.len;obtain⟨k,rfl⟩:∃ i,k=i+1:=⟨k-1,by simp[V5] at hlen;omega⟩;have h:Tl T p.pos (ky [100,111]::R):=h;refine⟨[],?_,rfl⟩;unfold Y';rw[Ja he h,xbS,show isT (ky [100,111]) [116,121,112,101]=false from rfl,if_neg (by decide),Ja he h,xbS,show isT (ky [100,111]) [108,101,116]=false from rfl,if_neg (by decide)];cases nd;simp[Nd.addKids,V5,zO]
 | c::ds,nd,p,k,hg,hl,hk,he,h0,hf,h=>by
  have hlen:=h.len;obtain⟨k,rfl⟩:∃ i,k=i+1:=⟨k-1,by omega⟩;obtain⟨gw,gd⟩:=hg c List.mem_cons_self;have h:Tl T p.pos (kx (d+1) c++sg [59]::(V5 (d+1) ds++ky [100,111]::R)):=by simpa[V5] using h
  obtain⟨c',g1,g2⟩:=dQ gw gd he h0 hf h;have hkl:(nd.addKid c').kids.length=nd.kids.length+1:=by cases nd;simp[Nd.addKid,Nd.kids]
  simp only[xlC] at hl;have h7:=h.skip.next;obtain⟨ks',g3,g4⟩:=Br ds (nd.addKid c') (zO p ((kx (d+1) c).length+1)) k (fun z hz=>hg z (List.mem_cons_of_mem _ hz)) (by omega) (by rw[X2];omega) he h0 hf h7;refine⟨c'::ks',?_,Zu g2 g4⟩;have hb:(Ye T [116,121,112,101] p).bind (fun a=>if a then some true else Ye T [108,101,116] p)=some true:=by
   obtain⟨l,e | e⟩:=mA (d:=d+1) gw
   ·rw[e] at h;rw[Ja he h];rfl
   ·rw[e] at h;rw[Ja he h,xbS,show isT (ky [108,101,116]) [116,121,112,101]=false from rfl,if_neg (by decide),Ja he h];rfl
  unfold Y';rw[show ∀ (F:Bool→Option (Nd×PS)),((Ye T [116,121,112,101] p).bind fun a=>(if a=true then some true else Ye T [108,101,116] p).bind F)=((Ye T [116,121,112,101] p).bind (fun a=>if a then some true else Ye T [108,101,116] p)).bind F from fun F=>by cases Ye T [116,121,112,101] p <;> rfl,hb,xbS,if_pos rfl,Ws (by omega),xbS,g1,xbS,g3,Zd];have e:(nd.addKid c').addKids ks'=nd.addKids (c'::ks'):=by cases nd;simp[Nd.addKid,Nd.addKids]
  rw[e];simp only[V5,xlA,xlC];congr 3;omega
theorem nD{d:Nat}{n:Nd}(h:WP n)(hd:Dep (d+2) n)(htl:Tl T 0 (bk (d+1) n++[⟨0,[],0,0⟩])):∃ m,Jm T=some (m,0,0)∧Z3 m n=true:=by
 obtain⟨a,ds,e,rfl,h1,h2,h3⟩:=h;have hk:=hd.kids;simp only[Nd.kids] at hk;obtain⟨_,g⟩:=F3 (T:=T) h3 rfl (by decide) (hk e (by simp)) (N:=41) (by decide);have g:Good T 41 39 false 7 (QC (QP (d+1)) e 7 7) e:=g;have et:bk (d+1) (.mk 30 [] 0 a [] (ds++[e]))=V5 (d+1) ds++ky [100,111]::QC (QP (d+1)) e 7 7:=by
  unfold bk;simp only[Nd.kids,List.dropLast_concat,List.getLastD_concat]
 rw[et] at htl;generalize QC (QP (d+1)) e 7 7=le at g htl;have htl:Tl T 0 (V5 (d+1) ds++ky [100,111]::(le++[⟨0,[],0,0⟩])):=by simpa using htl
 obtain⟨y,R,ey⟩:=V4 (V5 (d+1) ds) (ky [100,111]) (le++[⟨0,[],0,0⟩]);have hy:=htl;rw[ey] at hy;obtain⟨t,c1,_⟩:=qj (p:=⟨0,0,false,0,0⟩) rfl hy;obtain⟨ks',g1,g2⟩:=Br (T:=T) (d:=d) ds (zr 30 t.pos [] []) ⟨0,0,false,0,0⟩ (T.length+2) (fun c hc=>⟨h2 c hc,(hk c (by simp[hc])).mono (Nat.le_succ _)⟩) (by simpa[zr,Nd.kids] using h1) (by show T.length≤0+(T.length+2);omega) rfl rfl rfl htl;have h6:=htl.skip;have e1:=Zq (p:=zO ⟨0,0,false,0,0⟩ (V5 (d+1) ds).length) (s:=[100,111]) rfl h6 rfl;have h7:=h6.next;obtain⟨e',g3,g4⟩:=g.u7 { (⟨0,0,false,0,0⟩:PS) with pos:=0+(V5 (d+1) ds).length+1,deep:=0+1 } ⟨0,[],0,0⟩ [] rfl rfl (by show 0+1+39≤40;omega) h7 (by unfold Stop;decide);have g5:=Jd (T:=T) (p:=zO (zO ⟨0,0,false,0,0⟩ (V5 (d+1) ds).length) 1) (k:=le.length) rfl (by show 0<40;omega) g3;obtain⟨t',k1,k2⟩:=qj (p:=zO (zO (zO ⟨0,0,false,0,0⟩ (V5 (d+1) ds).length) 1) le.length) rfl h7.skip;refine⟨((zr 30 t.pos [] []).addKids ks').addKid e',?_,Yu rfl rfl rfl rfl (Ft (by simpa[zr,Nd.addKids,Nd.kids] using g2) (Zu g4 rfl))⟩;unfold Jm KE;rw[c1,xbS,g1,xbS];dsimp only;rw[e1,xbS,g5,xbS];dsimp only;rw[k1,xbS,if_neg (by rw[(X4 k2).1];decide),xmS,xmS];rfl
end Go.AL
namespace Go.AL
def JC(l:List Tk):Prop:=∀ t∈l,WG t
theorem QZ:JC []:=fun t h=>by cases h
theorem zN{t:Tk}{l:List Tk}(h:WG t)(g:JC l):JC (t::l):=fun x hx=>by
 rcases List.mem_cons.1 hx with rfl | hx
 ·exact h
 ·exact g x hx
theorem Qz{a b:List Tk}(h:JC a)(g:JC b):JC (a++b):=fun x hx=>by
 rcases List.mem_append.1 hx with hx | hx
 ·exact h x hx
 ·exact g x hx
theorem Ub{t:Tx}(h:JJ t):WG (nm t):=⟨rfl,.inr ⟨rfl,.inr (.inl ⟨rfl,h⟩)⟩⟩
theorem eQ{t:Tx}(h:gh t):WG (cn t):=⟨rfl,.inr ⟨rfl,.inr (.inr (.inl ⟨rfl,h⟩))⟩⟩
theorem Xl{t:Tx}(h:t∈keysL):WG (ky t):=⟨rfl,.inr ⟨rfl,.inr (.inr (.inr (.inr ⟨rfl,h⟩)))⟩⟩
theorem yh:∀ kd∈([15,16,17,18,21,22,23,20]:List Int),qM kd∈keysL:=by decide
theorem nn:WG (sg [45,62]):=⟨rfl,.inr ⟨rfl,.inr (.inr (.inr (.inl ⟨rfl,.inl rfl⟩)))⟩⟩
theorem Jc{c:UInt8}(h:c∈signsL):WG (sg [c]):=⟨rfl,.inr ⟨rfl,.inr (.inr (.inr (.inl ⟨rfl,.inr ⟨c,h,rfl⟩⟩)))⟩⟩
theorem AY{t:Tx}(h:t∈jP):WG (sg t):=by
 simp only[jP,List.mem_cons,List.mem_nil_iff,or_false] at h;rcases h with rfl | rfl | rfl | rfl | rfl | rfl | rfl | rfl <;> exact Jc (by decide)
section
variable {X:Nd→Int→List Tk}
theorem Vn{c:Nd}(h:∀ w,JC (X c w))(m w:Int):JC (QC X c m w):=by
 unfold QC;split
 ·exact zN (Jc (by decide)) (Qz (h 7) (zN (Jc (by decide)) QZ))
 ·exact h w
theorem tJ(w:Int):∀ (l:List Nd),(∀ c∈l,∀ w,JC (X c w))→JC (JI X w l)
 | [],_=>QZ
 | c::l,h=>Qz (Vn (h c List.mem_cons_self) 0 w) (tJ w l fun c hc=>h c (List.mem_cons_of_mem _ hc))
theorem CZ:∀ (l:List Nd),(∀ c∈l,∀ w,JC (X c w))→JC (Bc X l)
 | [],_=>QZ
 | [_],_=>QZ
 | a::b::l,h=>zN (Jc (by decide)) (Qz (h a List.mem_cons_self 7) (zN nn (Qz (Vn (h b (List.mem_cons_of_mem _ List.mem_cons_self)) 7 7) (CZ l fun c hc=>h c (List.mem_cons_of_mem _ (List.mem_cons_of_mem _ hc))))))
theorem NP{pt f:Bool}{n:Nd}(hs:Shape pt f n)(h:∀ c∈n.kids,∀ w,JC (X c w))(w:Int):JC (Bj X n w):=by
 have kk:=fun t:Tk=>Xl (t:=t.text);cases hs with
 | int _ _ m a h'=>exact zN ⟨rfl,.inl ⟨rfl,rfl,h'⟩⟩ QZ
 | text _ t a h'=>exact zN ⟨rfl,.inr ⟨rfl,.inl ⟨rfl,h'⟩⟩⟩ QZ
 | unit _ a=>exact zN (Jc (by decide)) (zN (Jc (by decide)) QZ)
 | retry _ a=>exact zN (Xl (by decide)) QZ
 | any _ a=>exact zN (Jc (by decide)) QZ
 | name _ _ t a h'=>exact zN (Ub h') QZ
 | con _ _ t a ks h' hl=>exact zN (eQ h') (tJ w ks h)
 | fn _ t a k h' =>
  have w0:=Vn (h k (by simp[Nd.kids]));exact zN (Xl (by decide)) (zN (Ub h') (zN nn (w0 w w)))
 | call _ a k l =>
  have w0:=Vn (h k (by simp[Nd.kids]));have w1:=Vn (h l (by simp[Nd.kids]));exact Qz (w0 1 w) (w1 0 w)
 | lt _ t a k l h' =>
  have w0:=Vn (h k (by simp[Nd.kids]));have w1:=Vn (h l (by simp[Nd.kids]));exact zN (Xl (by decide)) (zN (Ub h') (zN (Jc (by decide)) (Qz (w0 w w) (zN (Xl (by decide)) (w1 w w)))))
 | rc _ t a k l h' hk =>
  have w0:=Vn (h k (by simp[Nd.kids]));have w1:=Vn (h l (by simp[Nd.kids]));exact zN (Xl (by decide)) (zN (Xl (by decide)) (zN (Ub h') (zN (Jc (by decide)) (Qz (w0 w w) (zN (Xl (by decide)) (w1 w w))))))
 | iff _ a k l m =>
  have w0:=Vn (h k (by simp[Nd.kids]));have w1:=Vn (h l (by simp[Nd.kids]));have w2:=Vn (h m (by simp[Nd.kids]));exact zN (Xl (by decide)) (Qz (w0 w w) (zN (Xl (by decide)) (Qz (w1 w w) (zN (Xl (by decide)) (w2 w w)))))
 | mtch _ a ks hl =>
  cases ks with
  | nil=>simp at hl
  | cons k ks =>
   have w0:=Vn (h k (by simp[Nd.kids]));exact zN (Xl (by decide)) (Qz (w0 7 7) (zN (Xl (by decide)) (Qz (CZ ks fun c hc=>h c (by simp[Nd.kids,hc])) (zN (Xl (by decide)) QZ))))
 | tr _ t a k l h' =>
  have w0:=Vn (h k (by simp[Nd.kids]));have w1:=Vn (h l (by simp[Nd.kids]));exact zN (Xl (by decide)) (Qz (w0 7 7) (zN (Xl (by decide)) (zN (Ub h') (zN nn (Qz (w1 7 7) (zN (Xl (by decide)) QZ))))))
 | op _ t a k l h' =>
  have w0:=Vn (h k (by simp[Nd.kids]));have w1:=Vn (h l (by simp[Nd.kids]));exact Qz (w0 (Vm t) w) (zN (AY h') (w1 (V0 t) w))
 | sq a k l =>
  have w0:=Vn (h k (by simp[Nd.kids]));have w1:=Vn (h l (by simp[Nd.kids]));exact Qz (w0 5 w) (zN (Jc (by decide)) (w1 7 7))
 | key1 _ kd a k h' =>
  rcases h' with rfl | rfl | rfl | rfl | rfl | rfl <;> exact zN (Xl (yh _ (by simp[Nd.kind]))) (tJ w _ h)
 | key2 _ kd a k l h' =>
  rcases h' with rfl | rfl <;> exact zN (Xl (yh _ (by simp[Nd.kind]))) (tJ w _ h)
end
theorem Df:∀ (d:Nat) {pt:Bool} {r:Nat} {f:Bool} {n:Nd},WX pt r f n→Dep d n→∀ w,JC (QP d n w)
 | 0,_,_,_,_,_,hd=>by cases hd
 | d+1,pt,r,f,n,h,hd=>NP h.shape fun c hc=>by
  obtain⟨_,_,_,g⟩:=h.all c hc;exact Df d g (hd.kids c hc)
theorem cA{X:Nd→List Tk}:∀ (l:List Nd),(∀ c∈l,JC (X c))→JC (W4 X l)
 | [],_=>QZ
 | c::l,h=>by
  refine Qz ?_ (cA l fun c hc=>h c (List.mem_cons_of_mem _ hc));have hc:=h c List.mem_cons_self;split
  ·exact zN (Jc (by decide)) (Qz hc (zN (Jc (by decide)) QZ))
  ·exact hc
theorem AA{r:Nat}{n:Nd}(h:WT r n):∀ d,JC (EQ d n):=by
 induction h with
 | mk r t a ks h h1 h2 h3 i2 i3 =>
  intro d;cases d with
  | zero=>exact QZ
  | succ d =>
   refine zN (Ub h) (cA ks fun c hc=>?_);by_cases h0:c.kids=[]
   ·exact i3 c hc h0 d
   ·exact i2 c hc h0 d
theorem eP{r d:Nat}:∀ (l:List Nd) (i:Nat),(∀ c∈l,WT r c)→JC (VK d i l)
 | [],i,_=>QZ
 | c::l,i,h=>by
  refine zN ?_ (Qz (AA (h c List.mem_cons_self) d) (eP l (i+1) fun c hc=>h c (List.mem_cons_of_mem _ hc)));split
  ·exact Xl (by decide)
  ·exact Jc (by decide)
theorem ND{r d:Nat}{n:Nd}(h:WC r n):JC (GH d n):=by
 obtain⟨t,a,ks,rfl,h1,h2,h3⟩:=h;exact zN (eQ h1) (eP ks 0 fun c hc=>(h3 c hc).2)
theorem o5{r d:Nat}:∀ (l:List Nd) (i:Nat),(∀ c∈l,WC r c)→JC (V' d i l)
 | [],i,_=>QZ
 | c::l,i,h=>by
  refine Qz ?_ (Qz (ND (h c List.mem_cons_self)) (o5 l (i+1) fun c hc=>h c (List.mem_cons_of_mem _ hc)));split
  ·exact zN (Jc (by decide)) QZ
  ·exact QZ
theorem M5{r d:Nat}{n:Nd}(h:WD r n)(hd:Dep (d+1) n):JC (kx d n):=by
 cases h with
 | val t a v h hv =>
  obtain⟨_,_,_,hx⟩:=hv.x;exact zN (Xl (by decide)) (zN (Ub h) (zN (Jc (by decide)) (Vn (Df d hx (hd.kids v (by simp[Nd.kids]))) 6 6)))
 | rc t a v h hv hk =>
  obtain⟨_,_,_,hx⟩:=hv.x;exact zN (Xl (by decide)) (zN (Xl (by decide)) (zN (Ub h) (zN (Jc (by decide)) (Vn (Df d hx (hd.kids v (by simp[Nd.kids]))) 6 6))))
 | ty t a ns ks h hn hns hl hks =>
  refine zN (Xl (by decide)) (zN (Ub h) (Qz (fun t ht=>?_) (zN (Jc (by decide)) (o5 ks 0 hks))));obtain⟨s,hs,rfl⟩:=List.mem_map.1 ht;exact Ub (hns s hs)
theorem li{r d:Nat}:∀ (l:List Nd),(∀ c∈l,WD r c∧Dep (d+1) c)→JC (V5 d l)
 | [],_=>QZ
 | c::l,h=>Qz (M5 (h c List.mem_cons_self).1 (h c List.mem_cons_self).2) (zN (Jc (by decide)) (li l fun c hc=>h c (List.mem_cons_of_mem _ hc)))
theorem Nj{d:Nat}{n:Nd}(h:WP n)(hd:Dep (d+2) n):JC (bk (d+1) n):=by
 obtain⟨a,ds,e,rfl,h1,h2,h3⟩:=h;obtain⟨_,_,_,hx⟩:=h3.x;unfold bk;simp only[Nd.kids,List.dropLast_concat,List.getLastD_concat];exact Qz (li (r:=40) ds fun c hc=>⟨h2 c hc,(hd.kids c (by simp[Nd.kids,hc])).mono (Nat.le_succ _)⟩) (zN (Xl (by decide)) (Vn (Df (d+1) hx (hd.kids e (by simp[Nd.kids]))) 7 7))
theorem dZ{d:Nat}{n:Nd}(h:WP n)(hd:Dep (d+2) n):∃ t r,bk (d+1) n=t::r∧Zj (d+1) n=GX t++jb r∧JC (t::r)∧Lx (Zj (d+1) n) 0 (cD t 0::va r (GX t).length):=by
 have hw:=pE h hd;have hg:=Nj h hd;cases hp:bk (d+1) n with
 | nil=>rw[hp] at hw;simp[jb] at hw
 | cons t r =>
  rw[hp,qJ] at hw;rw[hp] at hg;have hw:Zj (d+1) n=GX t++jb r:=by simpa using hw
  exact⟨t,r,rfl,hw,hg,by rw[hw];exact p9 hg⟩
theorem mW:∀ (l:List Tk) (k:Nat),JC l→(va l k).map z0=l++[⟨0,[],0,0⟩]
 | [],k,_=>rfl
 | t::r,k,h=>by
  have h0:=(h t List.mem_cons_self).1;show z0 (cD t _)::(va r _).map z0=_;rw[mW r _ fun x hx=>h x (List.mem_cons_of_mem _ hx)];have e:z0 (cD t ((k+1:Nat):Int))=t:=by cases t;simp only at h0;simp[z0,cD,h0]
  rw[e];rfl
mutual
theorem Fp:∀ {a b:Nd},Z3 a b=true→Z3 b a=true
 | .mk k t m p ns ks,.mk k' t' m' p' ns' ks',h=>by
  have q:=WO h;exact Yu q.1.symm q.2.1.symm q.2.2.1.symm q.2.2.2.1.symm (Dv q.2.2.2.2)
theorem Dv:∀ {l r:List Nd},qX l r=true→qX r l=true
 | [],[],_=>rfl
 | [],_::_,h=>by simp[qX] at h
 | _::_,[],h=>by simp[qX] at h
 | a::l,b::r,h=>by
  simp only[qX,Y4] at h;exact Zu (Fp h.1) (Dv h.2)
end
theorem ub{s:Tx}{n:Nd}{a:Int}(h:qC s=some (n,a,0)){d:Nat}(hd:Dep (d+2) n)(hl:(Zj (d+1) n).length≤2000):∃ m,qC (Zj (d+1) n)=some (m,0,0)∧Z3 n m=true:=by
 have hp:=YR h;obtain⟨t,r,e1,e2,e3,e4⟩:=dZ hp hd;have hlex:=ff e4 hl;have htl:Tl (cD t 0::va r (GX t).length) 0 (bk (d+1) n++[⟨0,[],0,0⟩]):=by
  unfold Tl;rw[e1,List.drop_zero,List.map_cons,mW r _ fun x hx=>e3 x (List.mem_cons_of_mem _ hx)];have h0:=(e3 t List.mem_cons_self).1;have e:z0 (cD t 0)=t:=by cases t;simp only at h0;simp[z0,cD,h0]
  rw[e];rfl
 obtain⟨m,g1,g2⟩:=nD hp hd htl;refine⟨m,?_,Fp g2⟩;unfold qC;rw[hlex];exact g1
end Go.AL
namespace Go.AL
theorem mU{pt:Bool}{r:Nat}{f:Bool}{n:Nd}(h:WX pt r f n):Nr n:=by
 induction h with
 | mk pt r f n hs h1 h2 h3 i2 i3 =>
  refine .mk n (fun c hc=>?_) ?_
  ·obtain⟨i,hi⟩:=List.getElem?_of_mem hc;cases hb:JX (ZA pt f n.kind n.text i).m c with
   | true=>exact i2 i c hi hb
   | false=>exact i3 i c hi hb
  ·cases hs <;> simp only[Nd.num] <;> omega
theorem AB{r:Nat}{n:Nd}(h:WT r n):Nr n:=by
 induction h with
 | mk r t a ks h h1 h2 h3 i2 i3 =>
  refine .mk _ (fun c hc=>?_) (by simp only[Nd.num];omega);by_cases h0:c.kids=[]
  ·exact i3 c hc h0
  ·exact i2 c hc h0
theorem Au{r:Nat}{n:Nd}(h:WD r n):Nr n:=by
 cases h with
 | val t a v h hv =>
  obtain⟨_,_,_,hx⟩:=hv.x;exact .mk _ (fun c hc=>by rw[List.mem_singleton.1 hc];exact mU hx) (by simp only[Nd.num];omega)
 | rc t a v h hv hk =>
  obtain⟨_,_,_,hx⟩:=hv.x;exact .mk _ (fun c hc=>by rw[List.mem_singleton.1 hc];exact mU hx) (by simp only[Nd.num];omega)
 | ty t a ns ks h hn hns hl hks =>
  refine .mk _ (fun c hc=>?_) (by simp only[Nd.num];omega);obtain⟨t',a',ks',rfl,_,_,h3⟩:=hks c hc;exact .mk _ (fun c hc=>AB (h3 c hc).2) (by simp only[Nd.num];omega)
theorem Ik{n:Nd}(h:WP n):Nr n:=by
 obtain⟨a,ds,e,rfl,h1,h2,h3⟩:=h;refine .mk _ (fun c hc=>?_) (by simp only[Nd.num];omega);rcases List.mem_append.1 hc with hc | hc
 ·exact Au (h2 c hc)
 ·obtain⟨_,_,_,hx⟩:=h3.x;rw[List.mem_singleton.1 hc];exact mU hx
theorem yJ{n:Nd}(h:WP n):0<n.kids.length:=by
 obtain⟨a,ds,e,rfl,_⟩:=h;simp[Nd.kids]
theorem nJ{pt:Bool}{r:Nat}{f:Bool}{n:Nd}(h:WX pt r f n):GE n:=by
 induction h with
 | mk pt r f n hs h1 h2 h3 i2 i3 =>
  refine .mk n (fun c hc=>?_) ?_
  ·obtain⟨i,hi⟩:=List.getElem?_of_mem hc;cases hb:JX (ZA pt f n.kind n.text i).m c with
   | true=>exact i2 i c hi hb
   | false=>exact i3 i c hi hb
  ·cases hs with
   | key1 _ kd a k h=>rcases h with rfl | rfl | rfl | rfl | rfl | rfl <;> simp[Nd.kind,Nd.kids,Nd.text]
   | key2 _ kd a k l h=>rcases h with rfl | rfl <;> simp[Nd.kind,Nd.kids,Nd.text]
   | mtch _ a ks h=>simp[Nd.kind,Nd.kids,Nd.text];omega
   | _=>simp[Nd.kind,Nd.kids,Nd.text]
theorem As{n:Nd}(h:WP n):GP n:=by
 obtain⟨a,ds,e,rfl,h1,h2,h3⟩:=h;obtain⟨_,_,_,hx⟩:=h3.x;refine⟨ds,e,rfl,fun c hc=>?_,nJ hx⟩;cases h2 c hc with
 | val t a v h hv =>
  obtain⟨_,_,_,hx⟩:=hv.x;exact .inl ⟨.inl rfl,Nat.le_refl _,fun c hc=>by rw[List.mem_singleton.1 hc];exact nJ hx⟩
 | rc t a v h hv hk =>
  obtain⟨_,_,_,hx⟩:=hv.x;exact .inl ⟨.inr rfl,Nat.le_refl _,fun c hc=>by rw[List.mem_singleton.1 hc];exact nJ hx⟩
 | ty t a ns ks h hn hns hl hks=>exact .inr ⟨rfl,hl.1⟩
theorem gZ{d:Nat}{n:Nd}(hk:0<n.kids.length)(hl:2000<(Zj d n).length):Kw d n=some ([],1):=by
 unfold Kw qC YY;rw[if_neg (by omega),if_pos hl];rfl
theorem uf{s:Tx}{n:Nd}{a:Int}(h:qC s=some (n,a,0)){d:Nat}(hd:Dep (d+2) n)(hl:(Zj (d+1) n).length≤2000):Kw (d+1) n=some (Zj (d+1) n,0):=by
 obtain⟨m,h1,h2⟩:=ub h hd hl;unfold Kw;rw[if_neg (by have:=yJ (YR h);omega),h1,xmS,if_pos ⟨rfl,h2⟩]
end Go.AL
