/- The parser on a text's tokens: it reads the node that the text is of. -/
import Derived.Test.YtkokccjfpebomaaGreatDoorT2
set_option linter.all false
namespace Go.AL
variable {T:List Tk}
theorem V4(l:List Tk)(x:Tk)(R:List Tk):∃ y R',l++x::R=y::R':=by
 cases hz:l++x::R with
 | nil=>simp at hz
 | cons y R'=>exact⟨y,R',rfl⟩
theorem JF{k a b:Int}{t:Tx}{x y x' y':Nd}(h:Z3 x' x=true)(g:Z3 y' y=true):Z3 (zr k a t [x',y']) (.mk k t 0 b [] [x,y])=true:=Yu rfl rfl rfl rfl (Zu h (Zu g rfl))
theorem Hj{k a b:Int}{t:Tx}{x x':Nd}(h:Z3 x' x=true):Z3 (zr k a t [x']) (.mk k t 0 b [] [x])=true:=Yu rfl rfl rfl rfl (Zu h rfl)
section
variable {N r:Nat} {f:Bool} {a:Int} {t:Tx} {la lb lc:List Tk} {k l m:Nd} {b1 b2 b3:Int}
theorem rM(h:Good T N r f b1 la k):UU T (Z7 T (N+2)) 7 (r+1) f (ky [102,117,110]::nm t::sg [45,62]::la) (.mk 6 t 0 a [] [k]):=by
 intro p x R h1 h2 h3 h5 hs;have h5:Tl T p.pos (ky [102,117,110]::nm t::sg [45,62]::(la++x::R)):=h5;obtain⟨t0,a1,a2⟩:=qj h1 h5;obtain⟨t1,c1,c2⟩:=ZZ h1 h5 (by decide);obtain⟨t2,d1,d2⟩:=YZ (p:=zO p 1) h1 h5.next (by show (3:Int)≠0;decide);have e1:=Zq (p:=zO (zO p 1) 1) (s:=[45,62]) h1 h5.next.next rfl;obtain⟨k',g1,g2⟩:=h.u7 { p with pos:=p.pos+1+1+1,deep:=p.deep+1 } x R h1 h2 (by show p.deep+1+r≤40;omega) h5.next.next.next hs;have g3:=Jd (T:=T) (p:=zO (zO (zO p 1) 1) 1) (k:=la.length) h1 (by show p.deep<40;omega) g1;have z:=X4 a2;have z2:=X4 d2;refine⟨zr 6 t1.pos t2.text [k'],?_,by rw[z2.2.1];exact Hj g2⟩;show J9 T (Z7 T (N+1)) _ p=_;unfold J9;rw[a1,xbS,if_neg (by rw[z.1,z.2.1];decide),if_pos (by rw[z.1,z.2.1];decide)];unfold Ll;rw[c1,xbS];dsimp only;rw[show Qn T 3 (zO p 1)=some (t2,zO (zO p 1) 1) from d1,xbS];dsimp only;rw[e1,xbS,g3,xmS];simp only[Zd,xlC];congr 3;omega
theorem fK(h:Good T N r f b1 la k)(g:Good T N r f b2 lb l):UU T (Z7 T (N+2)) 7 (r+1) f (ky [108,101,116]::nm t::sg [61]::(la++ky [105,110]::lb)) (.mk 8 t 0 a [] [k,l]):=by
 intro p x R h1 h2 h3 h5 hs;have h5:Tl T p.pos (ky [108,101,116]::nm t::sg [61]::(la++ky [105,110]::(lb++x::R))):=by simpa using h5
 obtain⟨t0,a1,a2⟩:=qj h1 h5;obtain⟨t1,c1,c2⟩:=ZZ h1 h5 (by decide);have c3:=JT (p:=zO p 1) (s:=[114,101,99]) h1 h5.next rfl;obtain⟨t2,d1,d2⟩:=YZ (p:=zO p 1) h1 h5.next (by show (3:Int)≠0;decide);have e1:=Zq (p:=zO (zO p 1) 1) (s:=[61]) h1 h5.next.next rfl;have h6:=h5.next.next.next;obtain⟨k',g1,g2⟩:=h.u7 { p with pos:=p.pos+1+1+1,deep:=p.deep+1 } (ky [105,110]) (lb++x::R) h1 h2 (by show p.deep+1+r≤40;omega) h6 (by unfold Stop;cases f <;> decide);have g3:=Jd (T:=T) (p:=zO (zO (zO p 1) 1) 1) (k:=la.length) h1 (by show p.deep<40;omega) g1;have h7:=h6.skip;have e2:=Zq (p:=zO (zO (zO (zO p 1) 1) 1) la.length) (s:=[105,110]) h1 h7 rfl;obtain⟨l',g4,g5⟩:=g.u7 { p with pos:=p.pos+1+1+1+la.length+1,deep:=p.deep+1 } x R h1 h2 (by show p.deep+1+r≤40;omega) h7.next hs;have g6:=Jd (T:=T) (p:=zO (zO (zO (zO (zO p 1) 1) 1) la.length) 1) (k:=lb.length) h1 (by show p.deep<40;omega) g4;have z:=X4 a2;have z2:=X4 d2;refine⟨zr 8 t1.pos t2.text [k',l'],?_,by rw[z2.2.1];exact JF g2 g5⟩;show J9 T (Z7 T (N+1)) _ p=_;unfold J9;rw[a1,xbS,if_pos (by rw[z.1,z.2.1];decide)];unfold Bg Xh;rw[c1,xbS];dsimp only;rw[c3,xbS];dsimp only;rw[show Qn T 3 (zO p 1)=some (t2,zO (zO p 1) 1) from d1,xbS];dsimp only;rw[e1,xbS,if_neg (by simp),xbS,g3,xmS,xbS,e2,xbS,g6,xmS];simp only[Zd,xlC,xlA];rw[if_neg (by simp)];congr 3;omega
theorem tO(h:Good T N r f b1 (ky [102,117,110]::la) k)(g:Good T N r f b2 lb l):UU T (Z7 T (N+2)) 7 (r+1) f (ky [108,101,116]::ky [114,101,99]::nm t::sg [61]::(ky [102,117,110]::la++ky [105,110]::lb)) (.mk 9 t 0 a [] [k,l]):=by
 intro p x R h1 h2 h3 h5 hs;have h5:Tl T p.pos (ky [108,101,116]::ky [114,101,99]::nm t::sg [61]::((ky [102,117,110]::la)++ky [105,110]::(lb++x::R))):=by simpa using h5
 obtain⟨t0,a1,a2⟩:=qj h1 h5;obtain⟨t1,c1,c2⟩:=ZZ h1 h5 (by decide);have c3:=JR (p:=zO p 1) (s:=[114,101,99]) h1 h5.next rfl;obtain⟨t2,d1,d2⟩:=YZ (p:=zO (zO p 1) 1) h1 h5.next.next (by show (3:Int)≠0;decide);have e1:=Zq (p:=zO (zO (zO p 1) 1) 1) (s:=[61]) h1 h5.next.next.next rfl;have h6:=h5.next.next.next.next;have e3:=Ja (p:=zO (zO (zO (zO p 1) 1) 1) 1) (x:=ky [102,117,110]) (R:=la++ky [105,110]::(lb++x::R)) h1 h6 [102,117,110];obtain⟨k',g1,g2⟩:=h.u7 { p with pos:=p.pos+1+1+1+1,deep:=p.deep+1 } (ky [105,110]) (lb++x::R) h1 h2 (by show p.deep+1+r≤40;omega) h6 (by unfold Stop;cases f <;> decide);have g3:=Jd (T:=T) (p:=zO (zO (zO (zO p 1) 1) 1) 1) (k:=(ky [102,117,110]::la).length) h1 (by show p.deep<40;omega) g1;have h7:=h6.skip;have e2:=Zq (p:=zO (zO (zO (zO (zO p 1) 1) 1) 1) (ky [102,117,110]::la).length) (s:=[105,110]) h1 h7 rfl;obtain⟨l',g4,g5⟩:=g.u7 { p with pos:=p.pos+1+1+1+1+(ky [102,117,110]::la).length+1,deep:=p.deep+1 } x R h1 h2 (by show p.deep+1+r≤40;omega) h7.next hs;have g6:=Jd (T:=T) (p:=zO (zO (zO (zO (zO (zO p 1) 1) 1) 1) (ky [102,117,110]::la).length) 1) (k:=lb.length) h1 (by show p.deep<40;omega) g4;have z:=X4 a2;have z2:=X4 d2;refine⟨zr 9 t1.pos t2.text [k',l'],?_,by rw[z2.2.1];exact JF g2 g5⟩;show J9 T (Z7 T (N+1)) _ p=_;unfold J9;rw[a1,xbS,if_pos (by rw[z.1,z.2.1];decide)];unfold Bg Xh;rw[c1,xbS];dsimp only;rw[c3,xbS];dsimp only;rw[show Qn T 3 (zO (zO p 1) 1)=some (t2,zO (zO (zO p 1) 1) 1) from d1,xbS];dsimp only;rw[e1,xbS,if_pos ⟨rfl,by show p.deep<40;omega⟩,e3,xbS,if_pos (show isT (ky [102,117,110]) [102,117,110]=true from rfl),xbS,g3,xmS,xbS,e2,xbS,g6,xmS];simp only[Zd,xlC,xlA,xcA];rw[if_pos trivial];congr 3;omega
theorem rF(h:Good T N r f b1 la k)(g:Good T N r f b2 lb l)(i:Good T N r f b3 lc m):UU T (Z7 T (N+2)) 7 (r+1) f (ky [105,102]::(la++ky [116,104,101,110]::(lb++ky [101,108,115,101]::lc))) (.mk 10 [] 0 a [] [k,l,m]):=by
 intro p x R h1 h2 h3 h5 hs;have h5:Tl T p.pos (ky [105,102]::(la++ky [116,104,101,110]::(lb++ky [101,108,115,101]::(lc++x::R)))):=by simpa using h5
 obtain⟨t0,a1,a2⟩:=qj h1 h5;obtain⟨t1,c1,c2⟩:=ZZ h1 h5 (by decide);have h6:=h5.next;obtain⟨k',g1,g2⟩:=h.u7 { p with pos:=p.pos+1,deep:=p.deep+1 } (ky [116,104,101,110]) _ h1 h2 (by show p.deep+1+r≤40;omega) h6 (by unfold Stop;cases f <;> decide);have g3:=Jd (T:=T) (p:=zO p 1) (k:=la.length) h1 (by show p.deep<40;omega) g1;have h7:=h6.skip;have e2:=Zq (p:=zO (zO p 1) la.length) (s:=[116,104,101,110]) h1 h7 rfl;have h8:=h7.next;obtain⟨l',g4,g5⟩:=g.u7 { p with pos:=p.pos+1+la.length+1,deep:=p.deep+1 } (ky [101,108,115,101]) _ h1 h2 (by show p.deep+1+r≤40;omega) h8 (by unfold Stop;cases f <;> decide);have g6:=Jd (T:=T) (p:=zO (zO (zO p 1) la.length) 1) (k:=lb.length) h1 (by show p.deep<40;omega) g4;have h9:=h8.skip;have e3:=Zq (p:=zO (zO (zO (zO p 1) la.length) 1) lb.length) (s:=[101,108,115,101]) h1 h9 rfl;obtain⟨m',g7,g8⟩:=i.u7 { p with pos:=p.pos+1+la.length+1+lb.length+1,deep:=p.deep+1 } x R h1 h2 (by show p.deep+1+r≤40;omega) h9.next hs;have g9:=Jd (T:=T) (p:=zO (zO (zO (zO (zO p 1) la.length) 1) lb.length) 1) (k:=lc.length) h1 (by show p.deep<40;omega) g7;have z:=X4 a2;refine⟨zr 10 t1.pos [] [k',l',m'],?_,Yu rfl rfl rfl rfl (Zu g2 (Zu g5 (Zu g8 rfl)))⟩;show J9 T (Z7 T (N+1)) _ p=_;unfold J9;rw[a1,xbS,if_neg (by rw[z.1,z.2.1];decide),if_neg (by rw[z.1,z.2.1];decide),if_pos (by rw[z.1,z.2.1];decide)];unfold JV;rw[c1,xbS,g3,xbS,e2,xbS,g6,xbS,e3,xbS,g9,xmS];simp only[Zd,xlC,xlA];congr 3;omega
theorem tW(h:Good T (N+1) (r+1) false 5 la k)(g:Good T N r false b2 lb l):UU T (Z7 T (N+2)) 7 (r+1) false (la++sg [59]::lb) (.mk 14 [] 0 a [] [k,l]):=by
 intro p x R h1 h2 h3 h5 hs;obtain⟨t,l0,e0,_,e5,_,_⟩:=h.hd;have hnf:=lp (e5 (by omega));have h5:Tl T p.pos (la++sg [59]::(lb++x::R)):=by simpa using h5
 obtain⟨t0,a1,a2⟩:=qj h1 (x:=t) (R:=l0++sg [59]::(lb++x::R)) (by rw[e0] at h5;exact h5);obtain⟨k',g1,g2⟩:=h.u5 (by omega) p (sg [59]) _ h1 h2 h3 h5 (by unfold Stop;decide);have h6:=h5.skip;have e1:=JR (p:=zO p la.length) (s:=[59]) h1 h6 rfl;obtain⟨l',g4,g5⟩:=g.u7 { p with pos:=p.pos+la.length+1,deep:=p.deep+1 } x R h1 h2 (by show p.deep+1+r≤40;omega) h6.next hs;have g6:=Jd (T:=T) (p:=zO (zO p la.length) 1) (k:=lb.length) h1 (by show p.deep<40;omega) g4;have z:=X4 a2;refine⟨zr 14 k'.pos [] [k',l'],?_,JF g2 g5⟩;show J9 T (Z7 T (N+1)) (Qj T (N+2)) p=_;unfold J9;rw[a1,xbS,if_neg (by rw[z.1,z.2.1];exact fun y=>hnf ⟨y.1,.inl y.2⟩),if_neg (by rw[z.1,z.2.1];exact fun y=>hnf ⟨y.1,.inr (.inl y.2)⟩),if_neg (by rw[z.1,z.2.1];exact fun y=>hnf ⟨y.1,.inr (.inr y.2)⟩),g1,xbS];dsimp only;rw[if_neg (by show ¬ p.flat=true;rw[h2];decide),e1,xbS];dsimp only;rw[if_pos rfl,g6,xmS];simp only[Zd,xlC,xlA];congr 3;omega
theorem tc(h:Good T N r false b1 la k)(g:Good T N r false b2 lb l):UU T (ZV T (Z7 T (N+1)) (Qj T (N+2))) 0 (r+1) f (ky [116,114,121]::(la++ky [119,105,116,104]::nm t::sg [45,62]::(lb++[ky [101,110,100]]))) (.mk 12 t 0 a [] [k,l]):=by
 intro p x R h1 h2 h3 h5 hs;have h5:Tl T p.pos (ky [116,114,121]::(la++ky [119,105,116,104]::nm t::sg [45,62]::(lb++ky [101,110,100]::x::R))):=by simpa using h5
 obtain⟨t0,a1,a2⟩:=qj h1 h5;obtain⟨t1,c1,c2⟩:=ZZ h1 h5 (by decide);have h6:=h5.next;obtain⟨k',g1,g2⟩:=h.u7 { p with pos:=p.pos+1,deep:=p.deep+1,flat:=false } (ky [119,105,116,104]) _ h1 rfl (by show p.deep+1+r≤40;omega) h6 (by unfold Stop;decide);have g3:=Ko (T:=T) (p:=zO p 1) (k:=la.length) h1 (by show p.deep<40;omega) g1;have h7:=h6.skip;have e2:=Zq (p:=zO (zO p 1) la.length) (s:=[119,105,116,104]) h1 h7 rfl;obtain⟨t2,d1,d2⟩:=YZ (p:=zO (zO (zO p 1) la.length) 1) h1 h7.next (by show (3:Int)≠0;decide);have e3:=Zq (p:=zO (zO (zO (zO p 1) la.length) 1) 1) (s:=[45,62]) h1 h7.next.next rfl;have h8:=h7.next.next.next;obtain⟨l',g4,g5⟩:=g.u7 { p with pos:=p.pos+1+la.length+1+1+1,deep:=p.deep+1,flat:=false } (ky [101,110,100]) _ h1 rfl (by show p.deep+1+r≤40;omega) h8 (by unfold Stop;decide);have g6:=Ko (T:=T) (p:=zO (zO (zO (zO (zO p 1) la.length) 1) 1) 1) (k:=lb.length) h1 (by show p.deep<40;omega) g4;have e4:=Zq (p:=zO (zO (zO (zO (zO (zO p 1) la.length) 1) 1) 1) lb.length) (s:=[101,110,100]) h1 h8.skip rfl;have z2:=X4 d2;refine⟨zr 12 t1.pos t2.text [k',l'],?_,by rw[z2.2.1];exact JF g2 g5⟩;unfold ZV;rw[a1,xbS,XO a2,XO a2,if_neg (by decide),if_pos (show isT (ky [116,114,121]) [116,114,121]=true from rfl)];unfold E6;rw[c1,xbS,g3,xbS,e2,xbS,show Qn T 3 (zO (zO (zO p 1) la.length) 1)=some (t2,_) from d1,xbS];dsimp only;rw[e3,xbS,g6,xbS,e4,xmS];simp only[Zd,xlC,xlA,xlN];congr 3;omega
theorem jF{X:Nd→Int→List Tk}{x:Tk}{R:List Tk}:∀ (rs:List Nd) (nd:Nd) (p:PS) (k:Nat) (first:Bool),(∀ i c,rs[i]?=some c→(i % 2=0→GoodP T (N+1) r (qO c) (X c 7) c)∧(i % 2=1→Good T N r false 7 (QC X c 7 7) c))→rs.length % 2=0→(first=true→rs≠[])→nd.kids.length+rs.length≤41→T.length≤p.pos+k→p.e=0→p.deep+(r+1)≤40→Tl T p.pos (Bc X rs++ky [101,110,100]::x::R) →
  ∃ ks',Q1 T (Z7 T (N+1)) (Qj T (N+2)) k first nd p=some (nd.addKids ks',zO p (Bc X rs).length)∧qX ks' rs=true
 | [],nd,p,k,first,_,_,hf,hl,hk,he,hd,h=>by
  have hlen:=h.len;obtain⟨k,rfl⟩:∃ j,k=j+1:=⟨k-1,by simp[Bc] at hlen;omega⟩;refine⟨[],?_,rfl⟩;have hff:first=false:=by
   cases first with
   | false=>rfl
   | true=>exact absurd rfl (hf rfl)
  subst hff;unfold Q1;rw[if_neg (by decide),Ja he h,xbS,show isT (ky [101,110,100]) [124]=false from rfl,if_neg (by decide)];cases nd;simp[Nd.addKids,Bc,zO]
 | [c],nd,p,k,first,_,hev,_,_,_,_,_,_=>by simp at hev
 | c::d::rs,nd,p,k,first,hg,hev,hf,hl,hk,he,hd,h=>by
  have hlen:=h.len;obtain⟨k,rfl⟩:∃ j,k=j+1:=⟨k-1,by omega⟩;have gc:=(hg 0 c rfl).1 rfl;have gd:=(hg 1 d rfl).2 rfl;have h5:Tl T p.pos (sg [124]::(X c 7++sg [45,62]::(QC X d 7 7++(Bc X rs++ky [101,110,100]::x::R)))):=by simpa[Bc] using h
  obtain⟨y,R',ey⟩:=V4 (Bc X rs) (ky [101,110,100]) (x::R);have hy:Stop 7 false y:=by
   cases rs with
   | nil=>simp only[Bc,xnA,List.cons.injEq] at ey;rw[←ey.1];unfold Stop;decide
   | cons a rs =>
    cases rs with
    | nil=>simp only[Bc,xnA,List.cons.injEq] at ey;rw[←ey.1];unfold Stop;decide
    | cons b rs=>simp only[Bc,xcA,List.cons.injEq] at ey;rw[←ey.1];unfold Stop;decide
  simp only[xlC] at hl hev;have hb:(if first=true then some true else Ye T [124] p)=some true:=by
   cases first with
   | true=>rfl
   | false=>rw[if_neg (by decide),Ja he h5];rfl
  have hmost:ZE T (Int.tdiv (nd.kids.length:Int) 2) 20 p=some p:=Ws (by
   have e:Int.tdiv (nd.kids.length:Int) 2=((nd.kids.length / 2:Nat):Int):=by simp[Int.tdiv]
   rw[e];omega)
  have e1:=Zq (s:=[124]) he h5 rfl;have h6:=h5.next;obtain⟨c',g1,g2⟩:=gc.p7 { p with pos:=p.pos+1,deep:=p.deep+1 } (sg [45,62]) _ he (by show p.deep+1+r≤40;omega) h6 (by decide);have g3:=Jd (T:=T) (p:=zO p 1) (k:=(X c 7).length) he (by show p.deep<40;omega) g1;have h7:=h6.skip;have e2:=Zq (p:=zO (zO p 1) (X c 7).length) (s:=[45,62]) he h7 rfl;have h8:=h7.next;obtain⟨d',g4,g5⟩:=gd.u7 { p with pos:=p.pos+1+(X c 7).length+1,deep:=p.deep+1,flat:=false } y R' he rfl (by show p.deep+1+r≤40;omega) (by rw[ey] at h8;exact h8) hy;have g6:=Ko (T:=T) (p:=zO (zO (zO p 1) (X c 7).length) 1) (k:=(QC X d 7 7).length) he (by show p.deep<40;omega) g4;have hkl:(nd.addKids [c',d']).kids.length=nd.kids.length+2:=by cases nd;simp[Nd.addKids,Nd.kids]
  obtain⟨ks',g7,g8⟩:=jF rs (nd.addKids [c',d']) (zO (zO (zO (zO p 1) (X c 7).length) 1) (QC X d 7 7).length) k false (fun i z hz=>by
   have:=hg (i+2) z (by simpa using hz);rwa[show (i+2) % 2=i % 2 by omega] at this) (by omega) (fun x=>by cases x) (by omega) (by simp only[X2];omega) he hd h8.skip
  refine⟨c'::d'::ks',?_,Zu g2 (Zu g5 g8)⟩;unfold Q1;rw[hb,xbS,if_pos rfl,hmost,xbS,e1,xbS,g3,xbS,e2,xbS,g6,xbS,g7];simp only[Zd,Bc,xlC,xlA];have e:(nd.addKids [c',d']).addKids ks'=nd.addKids (c'::d'::ks'):=by cases nd;simp[Nd.addKids]
  rw[e];congr 3;omega
theorem gn{X:Nd→Int→List Tk}{rs:List Nd}(h:Good T N r false b1 la k)(hg:∀ i c,rs[i]?=some c→(i % 2=0→GoodP T (N+1) r (qO c) (X c 7) c)∧(i % 2=1→Good T N r false 7 (QC X c 7 7) c))(hr:rs.length % 2=0∧2≤rs.length∧rs.length≤40):UU T (ZV T (Z7 T (N+1)) (Qj T (N+2))) 0 (r+1) f (ky [109,97,116,99,104]::(la++ky [119,105,116,104]::(Bc X rs++[ky [101,110,100]]))) (.mk 11 [] 0 a [] (k::rs)):=by
 intro p x R h1 h2 h3 h5 hs;have h5:Tl T p.pos (ky [109,97,116,99,104]::(la++ky [119,105,116,104]::(Bc X rs++ky [101,110,100]::x::R))):=by simpa using h5
 obtain⟨t0,a1,a2⟩:=qj h1 h5;obtain⟨t1,c1,c2⟩:=ZZ h1 h5 (by decide);have h6:=h5.next;obtain⟨k',g1,g2⟩:=h.u7 { p with pos:=p.pos+1,deep:=p.deep+1,flat:=false } (ky [119,105,116,104]) _ h1 rfl (by show p.deep+1+r≤40;omega) h6 (by unfold Stop;decide);have g3:=Ko (T:=T) (p:=zO p 1) (k:=la.length) h1 (by show p.deep<40;omega) g1;have h7:=h6.skip;have e2:=Zq (p:=zO (zO p 1) la.length) (s:=[119,105,116,104]) h1 h7 rfl;have h8:=h7.next;obtain⟨ks',g4,g5⟩:=jF rs (zr 11 t1.pos [] [k']) (zO (zO (zO p 1) la.length) 1) (T.length+2) true hg hr.1 (fun _ x=>by rw[x] at hr;simp at hr) (by simp[zr,Nd.kids];omega) (by omega) h1 h3 h8;have e4:=Zq (p:=zO (zO (zO (zO p 1) la.length) 1) (Bc X rs).length) (s:=[101,110,100]) h1 h8.skip rfl;refine⟨(zr 11 t1.pos [] [k']).addKids ks',?_,Yu rfl rfl rfl rfl (Zu g2 g5)⟩;unfold ZV;rw[a1,xbS,XO a2,if_pos (show isT (ky [109,97,116,99,104]) [109,97,116,99,104]=true from rfl)];unfold JH;rw[c1,xbS,g3,xbS,e2,xbS,g4,xbS,e4,xmS];simp only[Zd,xlC,xlA,xlN];congr 3;omega
theorem pO(h:Good T N r f 1 la k)(hc:∀ t l',la=t::l'→t.kind≠4)(g:Good T N r f 0 lb l):SC T (Z7 T N) (Qj T (N+1)) r f (la++lb) (.mk 7 [] 0 a [] [k,l]):=by
 intro p x R h1 h2 h3 h5;have h5:Tl T p.pos (la++(lb++x::R)):=by simpa using h5
 obtain⟨t,l0,e0,e1,_⟩:=g.hd;obtain⟨y,R',ey⟩:=V4 lb x R;obtain⟨k',j,g1,g2,g3⟩:=h.s1 (by omega) hc p y R' h1 h2 h3 (by rw[ey] at h5;exact h5);have h6:=h5.skip;obtain⟨l',g4,g5⟩:=g.u0 (by omega) (zO p la.length) x R h1 h2 h3 h6 yY;have hlen:=h6.len;obtain⟨j,rfl⟩:∃ i,j=i+1:=⟨j-1,by omega⟩;obtain⟨t2,k3,k4⟩:=qj (p:=zO p la.length) h1 (x:=t) (R:=l0++x::R) (by rw[e0] at h6;exact h6);have hpos:1≤lb.length:=by rw[e0];simp
 refine⟨zr 7 k'.pos [] [k',l'],j,?_,by simp only[xlA];omega,JF g3 g5⟩;rw[g1];conv=>lhs;unfold YM
 rw[k3,xbS,We k4,e1 (by omega),if_pos rfl,if_neg (by decide),g4,xbS];simp only[Zd,xlA]
theorem ke{part:PM Nd}{m:Int}{signs:List Tx}{t:Tx}(ht:t∈signs)(hs:Stop m f (sg t))(h:SS T part signs m r f la k)(g:UU T part m r f lb l):SS T part signs m r f (la++sg t::lb) (.mk 13 t 0 a [] [k,l]):=by
 intro p x R h1 h2 h3 h5 hx;have h5:Tl T p.pos (la++sg t::(lb++x::R)):=by simpa using h5
 obtain⟨k',j,g1,g2,g3⟩:=h p (sg t) _ h1 h2 h3 h5 hs;have h6:=h5.skip;obtain⟨t1,c1,c2⟩:=qj (p:=zO p la.length) h1 h6;obtain⟨t2,d1,d2⟩:=ZZ (p:=zO p la.length) h1 h6 (by show (5:Int)≠0;decide);obtain⟨l',g4,g5⟩:=g (zO (zO p la.length) 1) x R h1 h2 h3 h6.next hx;have hlt:p.pos+la.length<T.length:=h5.len;obtain⟨j,rfl⟩:∃ i,j=i+1:=⟨j-1,by omega⟩;have z:=X4 c2;refine⟨zr 13 k'.pos t1.text [k',l'],j,fun t' ht'=>?_,by simp only[xlA,xlC];omega,by rw[z.2.1];exact JF g3 g5⟩;have e:zO (zO (zO p la.length) 1) lb.length=zO p (la++sg t::lb).length:=by simp only[Zd,xlA,xlC];congr 1;omega
 rw[g1 t1 c1];conv=>lhs;unfold J0
 rw[if_pos (by rw[z.1,z.2.1];exact⟨rfl,ht⟩),d1,xbS,g4,xbS];dsimp only;rw[e,ht',xbS]
theorem oM{t:Tx}(ht:t=[61]∨t=[60])(h:UU T (E4 T (Z7 T N) (Qj T (N+1))) 4 r f la k)(g:UU T (E4 T (Z7 T N) (Qj T (N+1))) 4 r f lb l):UU T (W7 T (Z7 T N) (Qj T (N+1))) 5 r f (la++sg t::lb) (.mk 13 t 0 a [] [k,l]):=by
 intro p x R h1 h2 h3 h5 hx;have h5:Tl T p.pos (la++sg t::(lb++x::R)):=by simpa using h5
 obtain⟨k',g1,g3⟩:=h p (sg t) _ h1 h2 h3 h5 (by rcases ht with rfl | rfl <;> (unfold Stop;cases f <;> decide));have h6:=h5.skip;obtain⟨t1,c1,c2⟩:=qj (p:=zO p la.length) h1 h6;obtain⟨t2,d1,d2⟩:=ZZ (p:=zO p la.length) h1 h6 (by show (5:Int)≠0;decide);obtain⟨l',g4,g5⟩:=g (zO (zO p la.length) 1) x R h1 h2 h3 h6.next (hx.le (by omega));have z:=X4 c2;refine⟨zr 13 k'.pos t1.text [k',l'],?_,by rw[z.2.1];exact JF g3 g5⟩;unfold W7;rw[g1,xbS];dsimp only;rw[c1,xbS,XO c2,XO c2,if_pos (by rcases ht with rfl | rfl <;> decide),d1,xbS,g4,xmS];simp only[Zd,xlA,xlC];congr 3;omega
theorem VS{s:Tx}{kd:Int}(hk:qT s=(kd,1))(hp:0<kd)(g:Good T N r f 0 la k):UU T (JD T (Z7 T N) (Qj T (N+1))) 2 r f (ky s::la) (.mk kd [] 0 a [] [k]):=by
 intro p x R h1 h2 h3 h5 hx;have h5:Tl T p.pos (ky s::(la++x::R)):=h5;obtain⟨t1,c1,c2⟩:=qj h1 h5;obtain⟨t2,d1,d2⟩:=ZZ h1 h5 (by show (6:Int)≠0;decide);obtain⟨k',g4,g5⟩:=g.u0 (by omega) (zO p 1) x R h1 h2 h3 h5.next yY;have z:=X4 c2;have hk':qT t1.text=(kd,1):=by rw[z.2.1];exact hk
 refine⟨zr kd t1.pos [] [k'],?_,Hj g5⟩;unfold JD;rw[c1,xbS,hk',if_pos (by rw[z.1];exact⟨rfl,hp⟩),d1,xbS];show Xs T _ _ 1 _ _=_;simp only[Xs,g4,xbS,Zd,xlC];congr 3;omega
theorem L4{s:Tx}{kd:Int}(hk:qT s=(kd,2))(hp:0<kd)(g:Good T N r f 0 la k)(h:Good T N r f 0 lb l):UU T (JD T (Z7 T N) (Qj T (N+1))) 2 r f (ky s::(la++lb)) (.mk kd [] 0 a [] [k,l]):=by
 intro p x R h1 h2 h3 h5 hx;have h5:Tl T p.pos (ky s::(la++(lb++x::R))):=by simpa using h5
 obtain⟨y,R',ey⟩:=V4 lb x R;obtain⟨t1,c1,c2⟩:=qj h1 h5;obtain⟨t2,d1,d2⟩:=ZZ h1 h5 (by show (6:Int)≠0;decide);have h6:=h5.next;obtain⟨k',g4,g5⟩:=g.u0 (by omega) (zO p 1) y R' h1 h2 h3 (by rw[ey] at h6;exact h6) yY;obtain⟨l',g6,g7⟩:=h.u0 (by omega) (zO (zO p 1) la.length) x R h1 h2 h3 h6.skip yY;have z:=X4 c2;have hk':qT t1.text=(kd,2):=by rw[z.2.1];exact hk
 refine⟨zr kd t1.pos [] [k',l'],?_,JF g5 g7⟩;unfold JD;rw[c1,xbS,hk',if_pos (by rw[z.1];exact⟨rfl,hp⟩),d1,xbS];show Xs T _ _ 2 _ _=_;simp only[Xs,g4,g6,xbS];simp only[Zd,xlC,xlA];congr 3;omega
end
end Go.AL
namespace Go.AL
variable {T:List Tk}
theorem dE(pt f:Bool)(k:Int)(t:Tx)(i:Nat):0≤(ZA pt f k t i).m:=by
 have h1 := @F6 t;have h2:0≤lo f:=by cases f <;> decide
 unfold ZA;split
 ·exact h2
 split
 ·show 0≤(if i=0 then (1:Int) else 0);split <;> omega
 split
 ·show (0:Int)≤7;omega
 split
 ·show (0:Int)≤7;omega
 split
 ·show 0≤(if i=0 then Vm t else V0 t);unfold Vm V0;repeat' split;all_goals omega
 split
 ·split
  ·show (0:Int)≤5;omega
  ·show (0:Int)≤7;omega
 ·show (0:Int)≤0;omega
theorem mZ{m:Int}{c:Nd}(h:JX m c=false):qO c≤m∧¬ (c.kind=5∧m=1):=by
 unfold JX at h;rw[decide_eq_false_iff_not] at h;exact⟨by
  by_cases h2:qO c≤m
  ·exact h2
  ·exact absurd (.inl (by omega)) h,fun x=>h (.inr x)⟩
def NT(l:List Tk)(n:Nd):Prop:=qO n≤1→∀ t l',l=t::l'→t.kind=4→n.kind=5
def np(T:List Tk)(pt:Bool)(r:Nat)(f:Bool)(n:Nd):Prop :=
 (pt=false→∀ d,Dep d n→∀ N,r≤N→Good T N r f (qO n) (QP d n (lo f)) n∧NT (QP d n (lo f)) n∧(n.kind=6→∃ l,QP d n (lo f)=ky [102,117,110]::l)) ∧
 (pt=true→∀ d w,Dep d n→∀ N,r≤N→GoodP T N r (qO n) (QP d n w) n)
theorem jw{r:Nat}{s:Slot}{c:Nd}(hp:s.pt=false)(hm:0≤s.m)(h1:s.d+(if JX s.m c=true then 1 else 0)≤r)(h2:JX s.m c=true→np T s.pt (r-s.d-1) false c)(h3:JX s.m c=false→np T s.pt (r-s.d) s.f c){d:Nat}(hd:Dep d c){N:Nat}(hN:r-s.d≤N) :
  Good T N (r-s.d) s.f s.m (QC (QP d) c s.m (lo s.f)) c∧(s.m=1→∀ t l',QC (QP d) c s.m (lo s.f)=t::l'→t.kind≠4):=by
 unfold QC;cases hb:JX s.m c with
 | true =>
  rw[if_pos hb] at h1;rw[if_pos rfl];have hr:r-s.d=r-s.d-1+1:=by omega
  obtain⟨M,rfl⟩:∃ M,N=M+1:=⟨N-1,by omega⟩;have g:=((h2 hb).1 hp d hd M (by omega)).1;rw[hr];exact⟨(g.brackets s.f).le hm,fun _ t l' e=>by cases e;decide⟩
 | false =>
  rw[if_neg (by decide)];obtain⟨b1,b2⟩:=mZ hb;obtain⟨g,g2,_⟩:=(h3 hb).1 hp d hd N (by omega);exact⟨g.le b1,fun h t l' e h4=>b2 ⟨g2 (by omega) t l' e h4,h⟩⟩
theorem xL{r:Nat}{s:Slot}{c:Nd}(hp:s.pt=true)(hm:0≤s.m)(h1:s.d+(if JX s.m c=true then 1 else 0)≤r)(h2:JX s.m c=true→np T s.pt (r-s.d-1) false c)(h3:JX s.m c=false→np T s.pt (r-s.d) s.f c){d:Nat}(hd:Dep d c)(w:Int){N:Nat}(hN:r-s.d≤N) :
  GoodP T N (r-s.d) s.m (QC (QP d) c s.m w) c:=by
 unfold QC;cases hb:JX s.m c with
 | true =>
  rw[if_pos hb] at h1;rw[if_pos rfl];have hr:r-s.d=r-s.d-1+1:=by omega
  obtain⟨M,rfl⟩:∃ M,N=M+1:=⟨N-1,by omega⟩;have g:=(h2 hb).2 hp d 7 hd M (by omega);rw[hr];exact g.brackets.le hm
 | false =>
  rw[if_neg (by decide)];obtain⟨b1,_⟩:=mZ hb;exact ((h3 hb).2 hp d w hd N (by omega)).le b1
theorem EX{l:List Tk}{n:Nd}{t:Tk}{l':List Tk}(hl:l=t::l')(h:t.kind≠4):NT l n:=fun _ t' l2 e h4=>by
 rw[hl] at e;cases e;exact absurd h4 h
theorem YS{l:List Tk}{n:Nd}(h:1<qO n):NT l n:=fun x=>by omega
theorem wT{pt:Bool}{r:Nat}{f:Bool}{n:Nd}(h:WX pt r f n):np T pt r f n:=by
 induction h with
 | mk pt r f n hs h1 h2 h3 i2 i3 =>
  have kG:∀ i c (s:Slot),n.kids[i]?=some c→ZA pt f n.kind n.text i=s→s.pt=false→∀ {d},Dep d c→∀ {N},r-s.d≤N→s.d≤r∧Good T N (r-s.d) s.f s.m (QC (QP d) c s.m (lo s.f)) c∧(s.m=1→∀ t l',QC (QP d) c s.m (lo s.f)=t::l'→t.kind≠4):=by
   intro i c s hc hs hp d hd N hN;have a1:=h1 i c hc;have a2:=i2 i c hc;have a3:=i3 i c hc;have am:=dE pt f n.kind n.text i;rw[hs] at a1 a2 a3 am;exact⟨by omega,jw hp am a1 a2 a3 hd hN⟩
  have kP:∀ i c (s:Slot),n.kids[i]?=some c→ZA pt f n.kind n.text i=s→s.pt=true→∀ {d},Dep d c→∀ (w:Int) {N},r-s.d≤N→s.d≤r∧GoodP T N (r-s.d) s.m (QC (QP d) c s.m w) c:=by
   intro i c s hc hs hp d hd w N hN;have a1:=h1 i c hc;have a2:=i2 i c hc;have a3:=i3 i c hc;have am:=dE pt f n.kind n.text i;rw[hs] at a1 a2 a3 am;exact⟨by omega,xL hp am a1 a2 a3 hd w hN⟩
  refine⟨fun hpt d hd N hN=>?_,fun hpt d w hd N hN=>?_⟩
  ·subst hpt;obtain⟨d,rfl⟩:=hd.pos;have hk:=hd.kids;cases hs with
   | int _ _ m a h =>
    exact⟨.of0 rfl rfl (KS (x:=⟨1,[],m,0⟩) (.inl ⟨rfl,rfl⟩)),EX rfl (by show (1:Int)≠4;decide),fun x=>by cases x⟩
   | text _ t a h =>
    exact⟨.of0 rfl rfl (KS (x:=⟨2,t,0,0⟩) (.inr (.inl ⟨rfl,rfl⟩))),EX rfl (by show (2:Int)≠4;decide),fun x=>by cases x⟩
   | unit _ a=>exact⟨.of0 rfl rfl gF,EX rfl (by decide),fun x=>by cases x⟩
   | retry _ a=>exact⟨.of0 rfl rfl kU,EX rfl (by decide),fun x=>by cases x⟩
   | name _ _ t a h =>
    exact⟨.of0 rfl rfl (KS (x:=nm t) (.inr (.inr (.inl ⟨rfl,rfl⟩)))),EX rfl (by show (3:Int)≠4;decide),fun x=>by cases x⟩
   | con _ _ t a ks h hl =>
    refine⟨?_,fun _ _ _ _ _=>rfl,fun x=>by cases x⟩;have ha:∀ a,UU T (ZV T (Z7 T N) (Qj T (N+1))) 0 r f [cn t] (.mk 5 t 0 a [] []):=fun a=>KS (x:=cn t) (.inr (.inr (.inr ⟨rfl,rfl⟩)));have e:QP (d+1) (.mk 5 t 0 a [] ks) (lo f)=cn t::JI (QP d) (lo f) ks:=rfl;rw[e];cases hks:ks with
    | nil=>subst hks;exact .of0 rfl rfl (ha a)
    | cons c0 ks0 =>
     rw[←hks];have eb:qO (.mk 5 t 0 a [] ks)=2:=by rw[hks];rfl
     rw[eb];refine .of2 rfl (.inl rfl) (oL hl (fun c hc=>?_) ha);obtain⟨i,hi⟩:=List.getElem?_of_mem hc;exact (kG i c ⟨0,f,0,false⟩ hi rfl rfl (hk c hc) hN).2.1
   | fn _ t a k h =>
    refine⟨?_,YS (by show (1:Int)<6;decide),fun _=>⟨_,rfl⟩⟩;have q:=(kG 0 k ⟨1,f,lo f,false⟩ rfl rfl rfl (hk k (by simp[Nd.kids])) (Nat.le_trans (Nat.sub_le r 1) hN)).1;obtain⟨M,rfl⟩:∃ M,N=M+1:=⟨N-1,by have:1≤r:=q;omega⟩;obtain⟨g0,g1,_⟩:=kG 0 k ⟨1,f,lo f,false⟩ rfl rfl rfl (hk k (by simp[Nd.kids])) (N:=M) (by show r-1≤M;omega);obtain⟨r,rfl⟩:∃ q,r=q+1:=⟨r-1,by have:1≤r:=g0;omega⟩;exact .of7 rfl ⟨rfl,.inr (.inl rfl)⟩ (rM g1)
   | call _ a k l =>
    obtain⟨_,g1,g2⟩:=kG 0 k ⟨0,f,1,false⟩ rfl rfl rfl (hk k (by simp[Nd.kids])) (N:=N) hN;obtain⟨_,g3,_⟩:=kG 1 l ⟨0,f,0,false⟩ rfl rfl rfl (hk l (by simp[Nd.kids])) (N:=N) hN;obtain⟨t0,l0,e0,e1,_⟩:=g1.hd;have e:QP (d+1) (.mk 7 [] 0 a [] [k,l]) (lo f)=QC (QP d) k 1 (lo f)++QC (QP d) l 0 (lo f):=rfl;have e2:QC (QP d) k 1 (lo f)++QC (QP d) l 0 (lo f)=t0::(l0++QC (QP d) l 0 (lo f)):=by
     have:QC (QP d) k 1 (lo f)=t0::l0:=e0;rw[this];rfl
    rw[e];exact⟨.of1 e2 (e1 (Int.le_refl _)) (pO g1 (g2 rfl) g3),EX e2 (g2 rfl _ _ e0),fun x=>by cases x⟩
   | lt _ t a k l h =>
    refine⟨?_,YS (by show (1:Int)<6;decide),fun x=>by cases x⟩;have q:=(kG 0 k ⟨1,f,lo f,false⟩ rfl rfl rfl (hk k (by simp[Nd.kids])) (Nat.le_trans (Nat.sub_le r 1) hN)).1;obtain⟨M,rfl⟩:∃ M,N=M+1:=⟨N-1,by have:1≤r:=q;omega⟩;obtain⟨_,g1,_⟩:=kG 0 k ⟨1,f,lo f,false⟩ rfl rfl rfl (hk k (by simp[Nd.kids])) (N:=M) (by show r-1≤M;omega);obtain⟨_,g2,_⟩:=kG 1 l ⟨1,f,lo f,false⟩ rfl rfl rfl (hk l (by simp[Nd.kids])) (N:=M) (by show r-1≤M;omega);obtain⟨r,rfl⟩:∃ q,r=q+1:=⟨r-1,by have:1≤r:=q;omega⟩;exact .of7 rfl ⟨rfl,.inl rfl⟩ (fK g1 g2)
   | rc _ t a k l h hk6 =>
    refine⟨?_,YS (by show (1:Int)<6;decide),fun x=>by cases x⟩;have q:=(kG 0 k ⟨1,f,lo f,false⟩ rfl rfl rfl (hk k (by simp[Nd.kids])) (Nat.le_trans (Nat.sub_le r 1) hN)).1;obtain⟨M,rfl⟩:∃ M,N=M+1:=⟨N-1,by have:1≤r:=q;omega⟩;obtain⟨_,g1,_⟩:=kG 0 k ⟨1,f,lo f,false⟩ rfl rfl rfl (hk k (by simp[Nd.kids])) (N:=M) (by show r-1≤M;omega);obtain⟨_,g2,_⟩:=kG 1 l ⟨1,f,lo f,false⟩ rfl rfl rfl (hk l (by simp[Nd.kids])) (N:=M) (by show r-1≤M;omega);have hb:JX (lo f) k=false:=by
     cases f with
     | false=>exact vu k
     | true =>
      cases hb:JX 6 k with
      | false=>exact hb
      | true=>have:=fZ.1 hb;omega
    have ek:QC (QP d) k (lo f) (lo f)=QP d k (lo f):=by unfold QC;rw[hb];rfl
    obtain⟨lf,ef⟩:∃ l,QP d k (lo f)=ky [102,117,110]::l:=by
     obtain⟨d',rfl⟩:=(hk k (by simp[Nd.kids])).pos;cases k with
     | mk kk kt km kp kn kks =>
      simp only[Nd.kind] at hk6;subst hk6;exact⟨_,rfl⟩
    have g1:Good T M (r-1) f (lo f) (QC (QP d) k (lo f) (lo f)) k:=g1;rw[ek,ef] at g1;obtain⟨r,rfl⟩:∃ q,r=q+1:=⟨r-1,by have:1≤r:=q;omega⟩;have e:QP (d+1) (.mk 9 t 0 a [] [k,l]) (lo f)=ky [108,101,116]::ky [114,101,99]::nm t::sg [61]::(ky [102,117,110]::lf++ky [105,110]::QC (QP d) l (lo f) (lo f)):=by
     show ky [108,101,116]::ky [114,101,99]::nm t::sg [61]::(QC (QP d) k (lo f) (lo f)++ky [105,110]::QC (QP d) l (lo f) (lo f))=_;rw[ek,ef]
    rw[e];exact .of7 rfl ⟨rfl,.inl rfl⟩ (tO g1 g2)
   | iff _ a k l m =>
    refine⟨?_,YS (by show (1:Int)<6;decide),fun x=>by cases x⟩;have q:=(kG 0 k ⟨1,f,lo f,false⟩ rfl rfl rfl (hk k (by simp[Nd.kids])) (Nat.le_trans (Nat.sub_le r 1) hN)).1;obtain⟨M,rfl⟩:∃ M,N=M+1:=⟨N-1,by have:1≤r:=q;omega⟩;obtain⟨_,g1,_⟩:=kG 0 k ⟨1,f,lo f,false⟩ rfl rfl rfl (hk k (by simp[Nd.kids])) (N:=M) (by show r-1≤M;omega);obtain⟨_,g2,_⟩:=kG 1 l ⟨1,f,lo f,false⟩ rfl rfl rfl (hk l (by simp[Nd.kids])) (N:=M) (by show r-1≤M;omega);obtain⟨_,g3,_⟩:=kG 2 m ⟨1,f,lo f,false⟩ rfl rfl rfl (hk m (by simp[Nd.kids])) (N:=M) (by show r-1≤M;omega);obtain⟨r,rfl⟩:∃ q,r=q+1:=⟨r-1,by have:1≤r:=q;omega⟩;exact .of7 rfl ⟨rfl,.inr (.inr rfl)⟩ (rF g1 g2 g3)
   | mtch _ a ks hl =>
    cases ks with
    | nil=>simp at hl
    | cons k ks =>
     refine⟨?_,EX (t:=ky [109,97,116,99,104]) rfl (by decide),fun x=>by cases x⟩;have q:=(kG 0 k ⟨1,false,7,false⟩ rfl rfl rfl (hk k (by simp[Nd.kids])) (Nat.le_trans (Nat.sub_le r 1) hN)).1;obtain⟨M,rfl⟩:∃ M,N=M+1:=⟨N-1,by have:1≤r:=q;omega⟩;obtain⟨_,g1,_⟩:=kG 0 k ⟨1,false,7,false⟩ rfl rfl rfl (hk k (by simp[Nd.kids])) (N:=M) (by show r-1≤M;omega);have hrow:∀ i c,ks[i]?=some c→(i % 2=0→GoodP T (M+1) (r-1) (qO c) (QP d c 7) c)∧(i % 2=1→Good T M (r-1) false 7 (QC (QP d) c 7 7) c):=by
      intro i c hc;have hdc:=hk c (by simp only[Nd.kids];exact List.mem_cons_of_mem _ (List.mem_of_getElem? hc));refine⟨fun he=>?_,fun ho=>?_⟩
      ·have hsl:ZA false f (.mk 11 [] 0 a [] (k::ks):Nd).kind (.mk 11 [] 0 a [] (k::ks):Nd).text (i+1)=⟨1,false,7,true⟩:=by
        simp[ZA,Nd.kind];omega
       have a3:=i3 (i+1) c hc;rw[hsl] at a3;exact (a3 (vu c)).2 rfl d 7 hdc (M+1) (by show r-1≤M+1;omega)
      ·have hsl:ZA false f (.mk 11 [] 0 a [] (k::ks):Nd).kind (.mk 11 [] 0 a [] (k::ks):Nd).text (i+1)=⟨1,false,7,false⟩:=by
        simp[ZA,Nd.kind];omega
       exact (kG (i+1) c ⟨1,false,7,false⟩ hc hsl rfl hdc (N:=M) (by show r-1≤M;omega)).2.1
     obtain⟨r,rfl⟩:∃ q,r=q+1:=⟨r-1,by have:1≤r:=q;omega⟩;simp only[xlC] at hl;exact .of0 (t:=ky [109,97,116,99,104]) rfl rfl (gn (rs:=ks) g1 hrow ⟨by omega,by omega,by omega⟩)
   | tr _ t a k l h =>
    refine⟨?_,EX (t:=ky [116,114,121]) rfl (by decide),fun x=>by cases x⟩;have q:=(kG 0 k ⟨1,false,7,false⟩ rfl rfl rfl (hk k (by simp[Nd.kids])) (Nat.le_trans (Nat.sub_le r 1) hN)).1;obtain⟨M,rfl⟩:∃ M,N=M+1:=⟨N-1,by have:1≤r:=q;omega⟩;obtain⟨_,g1,_⟩:=kG 0 k ⟨1,false,7,false⟩ rfl rfl rfl (hk k (by simp[Nd.kids])) (N:=M) (by show r-1≤M;omega);obtain⟨_,g2,_⟩:=kG 1 l ⟨1,false,7,false⟩ rfl rfl rfl (hk l (by simp[Nd.kids])) (N:=M) (by show r-1≤M;omega);obtain⟨r,rfl⟩:∃ q,r=q+1:=⟨r-1,by have:1≤r:=q;omega⟩;exact .of0 (t:=ky [116,114,121]) rfl rfl (tc g1 g2)
   | op _ t a k l h =>
    obtain⟨_,g1,_⟩:=kG 0 k ⟨0,f,Vm t,false⟩ rfl rfl rfl (hk k (by simp[Nd.kids])) (N:=N) hN;obtain⟨_,g2,_⟩:=kG 1 l ⟨0,f,V0 t,false⟩ rfl rfl rfl (hk l (by simp[Nd.kids])) (N:=N) hN;have e:QP (d+1) (.mk 13 t 0 a [] [k,l]) (lo f)=QC (QP d) k (Vm t) (lo f)++sg t::QC (QP d) l (V0 t) (lo f):=rfl;have eb:qO (.mk 13 t 0 a [] [k,l])=ZD t:=rfl;rw[e,eb];obtain⟨t0,l0,e0,_,e1,_⟩:=g1.hd;have e2:QC (QP d) k (Vm t) (lo f)++sg t::QC (QP d) l (V0 t) (lo f)=t0::(l0++sg t::QC (QP d) l (V0 t) (lo f)):=by
     have:QC (QP d) k (Vm t) (lo f)=t0::l0:=e0;rw[this];rfl
    have hb := @F6 t;have hl5:Vm t≤5:=by unfold Vm;split <;> omega
    have hhd:=e1 hl5;refine⟨?_,YS (by rw[eb];omega),fun x=>by cases x⟩;have g1:Good T N r f (Vm t) (QC (QP d) k (Vm t) (lo f)) k:=g1;have g2:Good T N r f (V0 t) (QC (QP d) l (V0 t) (lo f)) l:=g2;have cs:(t∈VJ∧ZD t=3∧Vm t=3∧V0 t=2∧Stop 2 f (sg t))∨(t∈signsP∧ZD t=4∧Vm t=4∧V0 t=3∧Stop 3 f (sg t))∨((t=[61]∨t=[60])∧ZD t=5∧Vm t=4∧V0 t=4):=by
     simp only[jP,List.mem_cons,List.mem_nil_iff,or_false] at h;rcases h with rfl | rfl | rfl | rfl | rfl | rfl | rfl | rfl
     ·exact .inr (.inr ⟨.inl rfl,rfl,rfl,rfl⟩)
     ·exact .inr (.inr ⟨.inr rfl,rfl,rfl,rfl⟩)
     ·exact .inr (.inl ⟨by decide,rfl,rfl,rfl,by unfold Stop;cases f <;> decide⟩)
     ·exact .inr (.inl ⟨by decide,rfl,rfl,rfl,by unfold Stop;cases f <;> decide⟩)
     ·exact .inr (.inl ⟨by decide,rfl,rfl,rfl,by unfold Stop;cases f <;> decide⟩)
     ·exact .inl ⟨by decide,rfl,rfl,rfl,by unfold Stop;cases f <;> decide⟩
     ·exact .inl ⟨by decide,rfl,rfl,rfl,by unfold Stop;cases f <;> decide⟩
     ·exact .inl ⟨by decide,rfl,rfl,rfl,by unfold Stop;cases f <;> decide⟩
    rcases cs with⟨c1,c2,c3,c4,c5⟩ | ⟨c1,c2,c3,c4,c5⟩ | ⟨c1,c2,c3,c4⟩
    ·rw[c2];exact .of3 e2 hhd (ke c1 c5 (g1.s3 (by omega)) (g2.u2 (by omega)))
    ·rw[c2];exact .of4 e2 hhd (ke c1 c5 (g1.s4 (by omega)) (g2.u3 (by omega)))
    ·rw[c2];exact .of5 e2 hhd (oM c1 (g1.u4 (by omega)) (g2.u4 (by omega)))
   | sq a k l =>
    have q:=(kG 1 l ⟨1,false,7,false⟩ rfl rfl rfl (hk l (by simp[Nd.kids])) (Nat.le_trans (Nat.sub_le r 1) hN)).1;obtain⟨M,rfl⟩:∃ M,N=M+1:=⟨N-1,by have:1≤r:=q;omega⟩;obtain⟨_,g1,_⟩:=kG 0 k ⟨0,false,5,false⟩ rfl rfl rfl (hk k (by simp[Nd.kids])) (N:=M+1) hN;obtain⟨_,g2,_⟩:=kG 1 l ⟨1,false,7,false⟩ rfl rfl rfl (hk l (by simp[Nd.kids])) (N:=M) (by show r-1≤M;omega);obtain⟨r,rfl⟩:∃ q,r=q+1:=⟨r-1,by have:1≤r:=q;omega⟩;obtain⟨t0,l0,e0,_,e1,e3,_⟩:=g1.hd;have e:QP (d+1) (.mk 14 [] 0 a [] [k,l]) (lo false)=QC (QP d) k 5 7++sg [59]::QC (QP d) l 7 7:=rfl;have e2:QC (QP d) k 5 7++sg [59]::QC (QP d) l 7 7=t0::(l0++sg [59]::QC (QP d) l 7 7):=by
     have:QC (QP d) k 5 7=t0::l0:=e0;rw[this];rfl
    rw[e];exact⟨.seven e2 (e1 (Int.le_refl _)) e3 (tW g1 g2),YS (by show (1:Int)<7;decide),fun x=>by cases x⟩
   | key1 _ kd a k hkd =>
    have hs0:∀ i,ZA false f (.mk kd [] 0 a [] [k]:Nd).kind (.mk kd [] 0 a [] [k]:Nd).text i=⟨0,f,0,false⟩:=fun i=>by
     rcases hkd with rfl | rfl | rfl | rfl | rfl | rfl <;> simp[ZA,Nd.kind]
    obtain⟨_,g1,_⟩:=kG 0 k ⟨0,f,0,false⟩ rfl (hs0 0) rfl (hk k (by simp[Nd.kids])) (N:=N) hN;have g1:Good T N r f 0 (QC (QP d) k 0 (lo f)) k:=g1;have e0:JI (QP d) (lo f) [k]=QC (QP d) k 0 (lo f):=by simp[JI]
    rcases hkd with rfl | rfl | rfl | rfl | rfl | rfl
    ·have e:QP (d+1) (.mk 15 [] 0 a [] [k]) (lo f)=ky [112,114,105,110,116]::JI (QP d) (lo f) [k]:=rfl;rw[e,e0];exact⟨.of2 rfl (.inr ⟨rfl,by decide⟩) (VS rfl (by decide) g1),YS (by show (1:Int)<2;decide),fun x=>by cases x⟩
    ·have e:QP (d+1) (.mk 16 [] 0 a [] [k]) (lo f)=ky [114,97,105,115,101]::JI (QP d) (lo f) [k]:=rfl;rw[e,e0];exact⟨.of2 rfl (.inr ⟨rfl,by decide⟩) (VS rfl (by decide) g1),YS (by show (1:Int)<2;decide),fun x=>by cases x⟩
    ·have e:QP (d+1) (.mk 17 [] 0 a [] [k]) (lo f)=ky [115,112,97,119,110]::JI (QP d) (lo f) [k]:=rfl;rw[e,e0];exact⟨.of2 rfl (.inr ⟨rfl,by decide⟩) (VS rfl (by decide) g1),YS (by show (1:Int)<2;decide),fun x=>by cases x⟩
    ·have e:QP (d+1) (.mk 18 [] 0 a [] [k]) (lo f)=ky [97,116,111,109,105,99,97,108,108,121]::JI (QP d) (lo f) [k]:=rfl;rw[e,e0];exact⟨.of2 rfl (.inr ⟨rfl,by decide⟩) (VS rfl (by decide) g1),YS (by show (1:Int)<2;decide),fun x=>by cases x⟩
    ·have e:QP (d+1) (.mk 21 [] 0 a [] [k]) (lo f)=ky [116,118,97,114]::JI (QP d) (lo f) [k]:=rfl;rw[e,e0];exact⟨.of2 rfl (.inr ⟨rfl,by decide⟩) (VS rfl (by decide) g1),YS (by show (1:Int)<2;decide),fun x=>by cases x⟩
    ·have e:QP (d+1) (.mk 22 [] 0 a [] [k]) (lo f)=ky [114,101,97,100]::JI (QP d) (lo f) [k]:=rfl;rw[e,e0];exact⟨.of2 rfl (.inr ⟨rfl,by decide⟩) (VS rfl (by decide) g1),YS (by show (1:Int)<2;decide),fun x=>by cases x⟩
   | key2 _ kd a k l hkd =>
    have hs0:∀ i,ZA false f (.mk kd [] 0 a [] [k,l]:Nd).kind (.mk kd [] 0 a [] [k,l]:Nd).text i=⟨0,f,0,false⟩:=fun i=>by
     rcases hkd with rfl | rfl <;> simp[ZA,Nd.kind]
    obtain⟨_,g1,_⟩:=kG 0 k ⟨0,f,0,false⟩ rfl (hs0 0) rfl (hk k (by simp[Nd.kids])) (N:=N) hN;obtain⟨_,g2,_⟩:=kG 1 l ⟨0,f,0,false⟩ rfl (hs0 1) rfl (hk l (by simp[Nd.kids])) (N:=N) hN;have g1:Good T N r f 0 (QC (QP d) k 0 (lo f)) k:=g1;have g2:Good T N r f 0 (QC (QP d) l 0 (lo f)) l:=g2;have e0:JI (QP d) (lo f) [k,l]=QC (QP d) k 0 (lo f)++QC (QP d) l 0 (lo f):=by simp[JI]
    rcases hkd with rfl | rfl
    ·have e:QP (d+1) (.mk 23 [] 0 a [] [k,l]) (lo f)=ky [119,114,105,116,101]::JI (QP d) (lo f) [k,l]:=rfl;rw[e,e0];exact⟨.of2 rfl (.inr ⟨rfl,by decide⟩) (L4 rfl (by decide) g1 g2),YS (by show (1:Int)<2;decide),fun x=>by cases x⟩
    ·have e:QP (d+1) (.mk 20 [] 0 a [] [k,l]) (lo f)=ky [111,114,101,108,115,101]::JI (QP d) (lo f) [k,l]:=rfl;rw[e,e0];exact⟨.of2 rfl (.inr ⟨rfl,by decide⟩) (L4 rfl (by decide) g1 g2),YS (by show (1:Int)<2;decide),fun x=>by cases x⟩
  ·subst hpt;obtain⟨d,rfl⟩:=hd.pos;have hk:=hd.kids;cases hs with
   | int _ _ m a h=>exact .of0 rfl rfl (WB (x:=⟨1,[],m,0⟩) (.inl ⟨rfl,rfl⟩))
   | any _ a=>exact .of0 rfl rfl xU
   | name _ _ t a h=>exact .of0 rfl rfl (WB (x:=nm t) (.inr (.inl ⟨rfl,rfl⟩)))
   | con _ _ t a ks h hl =>
    have e:QP (d+1) (.mk 5 t 0 a [] ks) w=cn t::JI (QP d) w ks:=rfl;rw[e];have h7:=fy (T:=T) (N:=N) (r:=r) (t:=t) (a:=a) (ks:=ks) (X:=QP d) (w:=w) hl fun c hc=>by
     obtain⟨i,hi⟩:=List.getElem?_of_mem hc;exact (kP i c ⟨0,f,0,true⟩ hi rfl rfl (hk c hc) w hN).2
    refine⟨⟨_,_,rfl,rfl⟩,fun hb=>?_,h7⟩;cases hks:ks with
    | nil=>subst hks;exact WB (x:=cn t) (.inr (.inr ⟨rfl,rfl⟩))
    | cons c0 ks0 =>
     rw[hks] at hb;have:qO (.mk 5 t 0 a [] (c0::ks0))=2:=rfl;omega
end Go.AL
