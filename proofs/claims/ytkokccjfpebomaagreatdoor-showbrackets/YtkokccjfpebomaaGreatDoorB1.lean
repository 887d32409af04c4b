/- However many brackets stand around an exp, its node is the same. -/
import Derived.Test.YtkokccjfpebomaaGreatDoorS7
import Derived.Test.YtkokccjfpebomaaGreatDoorN9
import Derived.Test.YtkokccjfpebomaaGreatDoorS6
set_option maxHeartbeats 4000000
set_option linter.unusedSimpArgs false
set_option linter.unusedVariables false
set_option maxRecDepth 8000
namespace Go.AL
structure BR (d:Nat) (T1 T2:List Tk):Prop where
 open_:∀ j,j<d→∃ o,T2[1+j]?=some o∧o.kind=5∧o.text=[40]
 shut:∀ j,j<d→∃ c,T2[T1.length-1+d+j]?=some c∧c.kind=5∧c.text=[41]
 fin:∃ e,T2[T1.length-1+d+d]?=some e∧e.kind=0
variable {T1 T2:List Tk} {d:Nat}
theorem me (H:TR false d 1 T1 T2) (hz:∀ i t,T1[i]?=some t→t.kind=0→i+1=T1.length) (R:BR d T1 T2) (hd:d≤30) (len1:1<T1.length) {c1:Nd} {q1:PS} (k1:Wx T1 42 ⟨1,1,false,0,0⟩=some (c1,q1)) (z1:q1.e=0) {v1:Tk} (l1:zR T1 q1=some v1) (hv1:v1.kind=0) :
  ∀ (i j:Nat),j+i=d→∀ c q,Wx T2 (42-j) ⟨1+j,1+j,false,0,0⟩=some (c,q)→q.e=0→qz c1 c=true∧q.pos=T1.length-1+d+i:=by
 have B1:Bd T1 1 ⟨1,1,false,0,0⟩:=⟨len1,Nat.le_refl _,by decide⟩
 have hq1:q1.pos+1=T1.length:=by
  unfold zR at l1;rw[if_pos z1] at l1
  exact hz _ _ l1 hv1
 intro i
 induction i with
 | zero =>
  intro j hj c q k2 z2
  obtain rfl:j=d:=by omega
  obtain⟨t1,t2,g1,g2,_⟩:=H.tk 1 (Nat.le_refl _) len1
  have len2:1+j<T2.length:=(List.getElem?_eq_some_iff.1 g2).1
  have B2:Bd T2 (1+j) ⟨1+j,1+j,false,0,0⟩:=⟨len2,Nat.le_refl _,by show 1+j≤40;omega⟩
  obtain⟨RR,hs⟩:=LJ H 42 (42-j) 1 (1+j) (by decide) (by omega) _ _ _ _ _ _ B1 B2 k1 k2 ⟨Nat.le_refl _,rfl,rfl,rfl,rfl⟩ (.inr ⟨z1,z2⟩)
  exact⟨hs,by rw[RR.pos];omega⟩
 | succ i ih =>
  intro j hj c q k2 z2
  have hjd:j<d:=by omega
  obtain⟨o,h21,ok,ox⟩:=R.open_ j hjd
  have len2:1+j<T2.length:=(List.getElem?_eq_some_iff.1 h21).1
  have hlo:zR T2 ⟨1+j,1+j,false,0,0⟩=some o:=by unfold zR;rw[if_pos rfl];exact h21
  have B2:Bd T2 (42-(41-j)) ⟨1+j,1+j,false,0,0⟩:=⟨len2,by show 42-(41-j)≤1+j;omega,by show 1+j≤40;omega⟩
  have e42:42-j=(41-j)+1:=by omega
  rw[e42] at k2
  obtain⟨u,a,k3,st,hfin⟩:=LD H.k2 (n:=41-j) B2 hlo (fun x=>by rw[ok] at x;cases x) (by omega) k2
  have za:=st.e0 z2
  unfold Xz at k3
  rw[hlo] at k3
  simp only[Option.bind_some] at k3
  have f:∀ s:Tx,s≠[40]→isT o s=false:=fun s hs=>by
   unfold isT;rw[ox]
   have e:([40]==s)=false:=beq_eq_false_iff_ne.2 (fun h=>hs h.symm)
   rw[e];simp
  have f40:isT o [40]=true:=by unfold isT;rw[ox,ok];decide
  rw[f _ (by decide),f _ (by decide),f _ (by decide),f40] at k3
  simp only[Bool.false_eq_true,if_false,if_true,Option.bind_eq_some_iff,Prod.exists] at k3
  obtain⟨o',a2,k4,b,a3,k5,k3⟩:=k3
  obtain⟨l4,e4⟩:=qB k4
  rw[hlo] at l4;cases l4
  rw[if_pos ⟨rfl,by rw[ok];decide⟩] at e4
  subst e4
  obtain⟨w,l5,e5,m5⟩:=Yz k5
  have hw:T2[1+j+1]?=some w:=by unfold zR at l5;rw[if_pos rfl] at l5;exact l5
  cases hb:b with
  | true =>
   exfalso
   rw[hb] at e5
   by_cases hj2:j+1<d
   ·obtain⟨o2,h22,ok2,ox2⟩:=R.open_ (j+1) hj2
    rw[show 1+(j+1)=1+j+1 by omega,hw] at h22
    cases h22
    have:=e5.symm
    unfold isT at this
    rw[ox2] at this
    simp at this
   ·obtain⟨t1,t2,g1,g2,g3⟩:=H.tk 1 (Nat.le_refl _) len1
    have lt1:zR T1 ⟨1,1,false,0,0⟩=some t1:=by unfold zR;rw[if_pos rfl];exact g1
    rw[show 1+d=1+j+1 by omega,hw] at g2;cases g2
    rcases g3 with hS | ⟨_,hend,_⟩
    ·exact nk H.k1 (n:=41) (by exact B1) lt1 (by rw[hS.isT];exact e5.symm) (by decide) k1 z1
    ·obtain⟨s,x⟩:=(YI H.k1 42 1 (by decide)).st B1 k1
     exact Uu s x hend rfl z1
  | false =>
   rw[hb] at m5 k3
   simp only[Bool.false_eq_true,if_false] at m5
   subst m5
   simp only[Bool.false_eq_true,if_false,Option.bind_eq_some_iff,Option.map_eq_some_iff,Prod.exists,Prod.mk.injEq] at k3
   obtain⟨u',a4,k6,a5,k7,rfl,rfl⟩:=k3
   unfold Q7 at k6
   simp only[Option.map_eq_some_iff,Prod.exists,Prod.mk.injEq] at k6
   obtain⟨u2,a6,k6,rfl,rfl⟩:=k6
   unfold X9 at k6
   rw[if_neg (by show ¬ 40≤1+j;omega)] at k6
   simp only[Option.bind_some] at k6
   rw[if_neg (by decide)] at k6
   simp only[Option.bind_eq_some_iff,Prod.exists] at k6
   obtain⟨u3,a7,k8,k9⟩:=k6
   split at k9
   ·cases k9
   simp only[Option.some.injEq,Prod.mk.injEq] at k9
   obtain⟨rfl,rfl⟩:=k9
   have len3:1+j+1<T2.length:=(List.getElem?_eq_some_iff.1 hw).1
   have D2:Bd T2 (1+j+1) ⟨1+j+1,1+j+1,false,0,0⟩:=⟨len3,Nat.le_refl _,by show 1+j+1≤40;omega⟩
   have s7:=((YI H.k2 (41-j) (1+j+1) (by omega)).st D2 k8).1
   have s8:=(qj H.k2 (p:={ { a7 with deep:=a7.deep-1 } with flat:=false }) s7.lt k7).1
   have z7:a7.e=0:=s8.e0 za
   have k8':Wx T2 (42-(j+1)) ⟨1+(j+1),1+(j+1),false,0,0⟩=some (u3,a7):=by
    rw[show 42-(j+1)=41-j by omega,show 1+(j+1)=1+j+1 by omega];exact k8
   obtain⟨hs,p7⟩:=ih (j+1) (by omega) u3 a7 k8' z7
   obtain⟨cc0,hc,ck,cx⟩:=R.shut i (by omega)
   obtain⟨bb,a9,m1,m2⟩:=WH k7
   obtain⟨cc,l9,e9,m3⟩:=Yz m1
   have hcc:cc=cc0:=by
    unfold zR at l9
    rw[if_pos (by exact z7)] at l9
    have l9':T2[a7.pos]?=some cc:=l9
    rw[p7,hc] at l9'
    exact (Option.some.inj l9').symm
   subst hcc
   cases hbb:bb with
   | false =>
    rw[hbb] at m2
    simp only[Bool.false_eq_true,if_false] at m2
    exact absurd za (Qa m2 (by decide))
   | true =>
    rw[hbb] at m2 m3
    simp only[if_true] at m2 m3
    subst m2
    obtain⟨_,e10⟩:=qB m3
    rw[if_pos ⟨z7,by rw[ck];decide⟩] at e10
    have p5:a5.pos=T1.length-1+d+(i+1):=by
     rw[e10];show a7.pos+1=_;rw[p7];omega
    have hlast:∃ e,zR T2 a5=some e∧(e.kind=0∨(e.kind=5∧e.text=[41])):=by
     unfold zR
     rw[if_pos za,p5]
     by_cases hi:i+1<d
     ·obtain⟨e,he,hek,hex⟩:=R.shut (i+1) hi
      exact⟨e,he,.inr ⟨hek,hex⟩⟩
     ·obtain⟨e,he,hek⟩:=R.fin
      rw[show i+1=d by omega]
      exact⟨e,he,.inl hek⟩
    obtain⟨rfl,rfl⟩:=hfin z2 hlast
    exact⟨hs,p5⟩
theorem ky (H:TR false d 1 T1 T2) (hz:∀ i t,T1[i]?=some t→t.kind=0→i+1=T1.length) (R:BR d T1 T2) (hd:d≤30) {t u:Tk} (h10:T1[0]?=some t) (h20:T2[0]?=some u) (hk:t.kind=6) (hx:t.text=[100,111]) (uk:u.kind=6) (ux:u.text=[100,111])
  {n1 n2:Nd} {b1 b2:Int} (h1:YO T1=some (n1,b1,0)) (h2:YO T2=some (n2,b2,0)):qz n1 n2=true:=by
 obtain⟨c1,q1,k1,z1,⟨v1,l1,hv1⟩,rfl⟩:=uw H.k1 h10 hk hx h1
 obtain⟨c2,q2,k2,z2,_,rfl⟩:=uw H.k2 h20 uk ux h2
 refine W8 rfl rfl rfl rfl (EH ?_)
 have len1:1<T1.length:=by
  have:=H.k1.last 0 t h10 (by rw[hk];decide);omega
 exact (me H hz R hd len1 k1 z1 l1 hv1 d 0 (by omega) c2 q2 k2 z2).1
end Go.AL
namespace Go.AL
theorem pQ (z:Tx) (p:Int):Xc (100::111::32::z) p = .ok (⟨6,[100,111],0,p⟩,2):=by
 have e:qp qe (100::111::32::z)=2:=by
  rw[YM (by decide),YM (by decide),Wd (by decide)]
 unfold Xc
 dsimp only
 rw[if_neg (by decide),if_neg (by decide),if_pos (by decide),e,if_neg (by decide),show (100::111::32::z:Tx).take 2=[100,111] from rfl,if_neg (by decide),if_pos (by decide)]
theorem po (z:Tx) (p:Int):Xc (40::z) p = .ok (⟨5,[40],0,p⟩,1):=by
 unfold Xc
 dsimp only
 rw[if_neg (by decide),if_neg (by decide),if_neg (by decide),if_pos (by decide),if_neg (by rintro⟨_,h⟩;exact absurd h (by decide))]
theorem Bm (z:Tx) (p:Int):Xc (41::z) p = .ok (⟨5,[41],0,p⟩,1):=by
 unfold Xc
 dsimp only
 rw[if_neg (by decide),if_neg (by decide),if_neg (by decide),if_pos (by decide),if_neg (by rintro⟨_,h⟩;exact absurd h (by decide))]
theorem xI {s:Tx} {k:Nat} {T:List Tk} (h:Lx (32::s) k T):Lx s (k+1) T:=by
 have hs:qh false (32::s)=qh false s+1:=Y4 (.inl rfl)
 cases h with
 | nil hd =>
  rw[hs] at hd
  rw[hs,show k+(qh false s+1)=k+1+qh false s by omega]
  exact .nil (by simpa using hd)
 | cons hd ht hr =>
  rw[hs] at hd
  rw[hs,show k+(qh false s+1)=k+1+qh false s by omega] at ht hr
  exact .cons (by simpa using hd) ht hr
theorem wz {s:Tx} {k:Nat} {T:List Tk} (h:Lx s (k+1) T):Lx (32::s) k T:=by
 have hs:qh false (32::s)=qh false s+1:=Y4 (.inl rfl)
 cases h with
 | nil hd =>
  rw[show k+1+qh false s=k+qh false (32::s) by rw[hs];omega]
  exact .nil (by rw[hs];simpa using hd)
 | cons hd ht hr =>
  rw[show k+1+qh false s=k+qh false (32::s) by rw[hs];omega] at ht hr
  exact .cons (by rw[hs];simpa using hd) ht hr
theorem rQ {s:Tx} {T:List Tk} (h:Lx (100::111::32::s) 0 T):∃ Ts,T=⟨6,[100,111],0,0⟩::Ts∧Lx s 3 Ts:=by
 have hs:qh false (100::111::32::s)=0:=rfl
 cases h with
 | nil hd=>rw[hs] at hd;cases hd
 | cons hd ht hr =>
  rw[hs] at hd ht hr
  cases hd
  rw[pQ] at ht
  cases ht
  exact⟨_,rfl,xI hr⟩
theorem nA {s:Tx} {Ts:List Tk} (h:Lx s 3 Ts):Lx (100::111::32::s) 0 (⟨6,[100,111],0,0⟩::Ts) :=
 Lx.cons (s:=100::111::32::s) (r:=111::32::s) (c:=100) (n:=2) (k:=0) rfl (pQ s _) (wz h)
theorem Ba:∀ (m p:Nat),∃ T,Lx (List.replicate m 41) p T∧T.length=m+1∧(∀ j,j<m→∃ c,T[j]?=some c∧c.kind=5∧c.text=[41])∧∃ e,T[m]?=some e∧e.kind=0∧e.text=[]∧e.num=0
 | 0,p=>⟨_,.nil rfl,rfl,fun j hj=>by omega,_,rfl,rfl,rfl,rfl⟩
 | m+1,p=>by
  obtain⟨T,h1,h2,h3,h4⟩:=Ba m (p+1)
  refine⟨_,Lx.cons (s:=List.replicate (m+1) 41) (c:=41) (r:=List.replicate m 41) (k:=p) (n:=1) rfl (Bm _ _) h1,by simp[h2],fun j hj=>?_,?_⟩
  ·cases j with
   | zero=>exact⟨_,rfl,rfl,rfl⟩
   | succ j=>simpa using h3 j (by omega)
  ·simpa using h4
theorem ju {w:Tx} {n:Nat} (h:w.drop n=[]):w.length≤n:=by simpa using h
theorem nI {w:Tx} {k:Nat} {Ts:List Tk} (h:Lx w k Ts) (m:Nat):∀ k',∃ Ts',Lx (w++10::List.replicate m 41) k' Ts'∧Ts'.length=Ts.length+m∧(∀ i,i+1<Ts.length→∃ a b,Ts[i]?=some a∧Ts'[i]?=some b∧Sm a b) ∧
  (∀ j,j<m→∃ c,Ts'[Ts.length-1+j]?=some c∧c.kind=5∧c.text=[41])∧(∃ e,Ts'[Ts.length-1+m]?=some e∧e.kind=0∧e.text=[]∧e.num=0)∧∃ e,Ts[Ts.length-1]?=some e∧e.kind=0∧e.text=[]∧e.num=0:=by
 induction h with
 | @nil w k hd =>
  intro k'
  have hle:=ju hd
  have hs:=VA (z:=List.replicate m 41) false w
  rw[if_neg (by omega)] at hs
  have hz:qh false (List.replicate m 41)=0:=by cases m <;> rfl
  rw[hz,Nat.add_zero] at hs
  have hdr:(w++10::List.replicate m 41).drop (qh false (w++10::List.replicate m 41))=List.replicate m 41:=by
   rw[hs];simp[List.drop_append]
  cases m with
  | zero =>
   exact⟨_,.nil hdr,rfl,fun i hi=>by simp at hi,fun j hj=>by omega,⟨_,rfl,rfl,rfl,rfl⟩,⟨_,rfl,rfl,rfl,rfl⟩⟩
  | succ m =>
   obtain⟨T,h1,h2,h3,h4⟩:=Ba m (k'+qh false (w++10::List.replicate (m+1) 41)+1)
   refine⟨_,Lx.cons (n:=1) hdr (Bm _ _) h1,by simp[h2];omega,fun i hi=>by simp at hi,fun j hj=>?_,?_,⟨_,rfl,rfl,rfl,rfl⟩⟩
   ·cases j with
    | zero=>exact⟨_,rfl,rfl,rfl⟩
    | succ j=>simpa using h3 j (by omega)
   ·simpa using h4
 | @cons w r c k n t T hd ht hr ih =>
  intro k'
  obtain⟨tp,tn,tl,tk⟩:=EZ ht
  have hlt:qh false w<w.length:=by
   have:=congrArg List.length hd
   simp only[List.length_drop,List.length_cons] at this
   omega
  have hs:=VA (z:=List.replicate m 41) false w
  rw[if_pos hlt] at hs
  have hdr:(w++10::List.replicate m 41).drop (qh false (w++10::List.replicate m 41))=c::(r++10::List.replicate m 41):=by
   rw[hs,List.drop_append_of_le_length (by omega),hd];rfl
  have ht':=gX (z:=List.replicate m 41) (p':=((k'+qh false (w++10::List.replicate m 41):Nat):Int)) ht
  obtain⟨Ts',h1,h2,h3,h4,h5,h6⟩:=ih (k'+qh false (w++10::List.replicate m 41)+n)
  have hrest:(c::(r++10::List.replicate m 41)).drop n=(c::r).drop n++10::List.replicate m 41:=by
   rw[←List.cons_append,List.drop_append_of_le_length tl]
  have hT:=(Ha hr).1.pos
  have e1:(t::T).length-1=(T.length-1)+1:=by simp;omega
  refine⟨_,.cons hdr ht' (by rw[hrest];exact h1),by simp[h2];omega,fun i hi=>?_,fun j hj=>?_,?_,?_⟩
  ·cases i with
   | zero=>exact⟨_,_,rfl,rfl,rfl,rfl,rfl⟩
   | succ i =>
    obtain⟨a,b,g1,g2,g3⟩:=h3 i (by simp at hi;omega)
    exact⟨a,b,by simpa using g1,by simpa using g2,g3⟩
  ·obtain⟨e,g1,g2⟩:=h4 j hj
   refine⟨e,?_,g2⟩
   rw[e1,show T.length-1+1+j=T.length-1+j+1 by omega];simpa using g1
  ·obtain⟨e,g1,g2⟩:=h5
   refine⟨e,?_,g2⟩
   rw[e1,show T.length-1+1+m=T.length-1+m+1 by omega];simpa using g1
  ·obtain⟨e,g1,g2⟩:=h6
   refine⟨e,?_,g2⟩
   rw[e1];simpa using g1
theorem Lz {s:Tx}:∀ (m p:Nat) {T:List Tk},Lx s (p+m) T→∃ T',Lx (List.replicate m 40++s) p T'∧T'.length=T.length+m∧(∀ j,j<m→∃ o,T'[j]?=some o∧o.kind=5∧o.text=[40])∧∀ i,T'[i+m]?=T[i]?
 | 0,p,T,h=>⟨T,h,rfl,fun j hj=>by omega,fun i=>rfl⟩
 | m+1,p,T,h=>by
  rw[show p+(m+1)=p+1+m by omega] at h
  obtain⟨T',h1,h2,h3,h4⟩:=Lz m (p+1) h
  refine⟨_,Lx.cons (s:=List.replicate (m+1) 40++s) (c:=40) (r:=List.replicate m 40++s) (k:=p) (n:=1) rfl (po _ _) h1,by simp[h2];omega,fun j hj=>?_,fun i=>?_⟩
  ·cases j with
   | zero=>exact⟨_,rfl,rfl,rfl⟩
   | succ j=>simpa using h3 j (by omega)
  ·rw[show i+(m+1)=i+m+1 by omega];simpa using h4 i
theorem H3 {s:Tx} {n:Nd} {b:Int} (h:q8 s=some (n,b,0)):∃ T,Y0 s = .ok T∧YO T=some (n,b,0):=by
 unfold q8 at h
 cases hl:Y0 s with
 | error x =>
  obtain⟨a,e⟩:=x
  rw[hl] at h
  simp only[Option.some.injEq,Prod.mk.injEq] at h
  exact absurd h.2.2 (U4 hl)
 | ok T=>rw[hl] at h;exact⟨T,rfl,h⟩
theorem GP {s:Tx} {m:Nat} (hm:m≤30) {n1 n2:Nd} {b1 b2:Int} (h1:q8 ([100,111,32]++s)=some (n1,b1,0)) (h2:q8 ([100,111,32]++(List.replicate m 40++(s++10::List.replicate m 41)))=some (n2,b2,0)):qz n1 n2=true:=by
 obtain⟨T1,l1,g1⟩:=H3 h1
 obtain⟨T2,l2,g2⟩:=H3 h2
 obtain⟨Ts,rfl,hx⟩:=rQ (Ki l1).1
 obtain⟨Ts',hy,y1,y2,y3,y4,y5⟩:=nI hx m (3+m)
 obtain⟨To,ho,o1,o2,o3⟩:=Lz m 3 hy
 have hL:=nA ho
 have hT2:=oD (Ki l2).1 hL
 subst hT2
 have K1:=Ha (Ki l1).1
 have K2:=Ha hL
 have KT:=Ha hx
 have hpos:=KT.1.pos
 have e1:(⟨6,[100,111],0,0⟩::Ts:List Tk).length-1=Ts.length:=by simp
 have R:BR m (⟨6,[100,111],0,0⟩::Ts) (⟨6,[100,111],0,0⟩::To):=by
  refine⟨fun j hj=>?_,fun j hj=>?_,?_⟩
  ·rw[show 1+j=j+1 by omega];simpa using o2 j hj
  ·obtain⟨c,c1,c2⟩:=y3 j hj
   refine⟨c,?_,c2⟩
   rw[e1,show Ts.length+m+j=(Ts.length-1+j)+m+1 by omega,List.getElem?_cons_succ,o3]
   exact c1
  ·obtain⟨c,c1,c2,_⟩:=y4
   refine⟨c,?_,c2⟩
   rw[e1,show Ts.length+m+m=(Ts.length-1+m)+m+1 by omega,List.getElem?_cons_succ,o3]
   exact c1
 have H:TR false m 1 (⟨6,[100,111],0,0⟩::Ts) (⟨6,[100,111],0,0⟩::To):=by
  refine⟨K1.1,K2.1,fun h=>(by cases h),fun i hi hl=>?_⟩
  cases i with
  | zero=>omega
  | succ i =>
   simp only[List.length_cons] at hl
   rw[show i+1+m=i+m+1 by omega,List.getElem?_cons_succ,List.getElem?_cons_succ,o3]
   by_cases hi2:i+1<Ts.length
   ·obtain⟨a,b,z1,z2,z3⟩:=y2 i hi2
    exact⟨a,b,z1,z2,.inl z3⟩
   ·have hie:i=Ts.length-1:=by omega
    obtain⟨a,a1,a2,a3,a4⟩:=y5
    cases m with
    | zero =>
     obtain⟨c,c1,c2,c3,c4⟩:=y4
     exact⟨a,c,by rw[hie];exact a1,by rw[hie];exact c1,.inl ⟨by rw[a2,c2],by rw[a3,c3],by rw[a4,c4]⟩⟩
    | succ m =>
     obtain⟨c,c1,c2,c3⟩:=y3 0 (by omega)
     exact⟨a,c,by rw[hie];exact a1,by rw[hie];exact c1,.inr ⟨rfl,by simp;omega,a2,c2,c3⟩⟩
 exact ky H K1.2.1 R hm rfl rfl rfl rfl rfl rfl g1 g2
end Go.AL
namespace Go.Proofs
open Go Go.AL Tryz
theorem vQ {s:Tx} {n:Nd} {a e:Int} (hp:q8 s=some (n,a,e)) (hs:s.length≤1000) {d:Nat} {t:Tx} {f:Int} (h:(e≠0∧t=[]∧f=e)∨(e=0∧Dep (d+1) n∧Wn d n=some (t,f))) {x:ByteArray} (hx:x=ba s) {gid:Nat} {gm:Int} {K:SV→St→Prop} {st:St} (hg:K8 gid gm st)
  (hk:K (.tuple [.sc (.string (ba t)),.sc (.int .i64 f)]) st):ACalls prog 14 [.sc (.string x)] K st:=by
 subst hx
 rcases h with⟨he,rfl,rfl⟩ | ⟨rfl,hd,hsh⟩
 ·exact gL hp hs he hk
 ·exact Lo hp hs hd hsh hg hk
theorem Kq (i:Nat):ba (List.replicate i 40)++(⟨#[40]⟩:ByteArray)=ba (List.replicate (i+1) 40):=by
 rw[show (⟨#[40]⟩:ByteArray)=ba [40] from rfl,Jq,List.replicate_succ']
theorem Kj (i:Nat):ba (10::List.replicate i 41)++(⟨#[41]⟩:ByteArray)=ba (10::List.replicate (i+1) 41):=by
 rw[show (⟨#[41]⟩:ByteArray)=ba [41] from rfl,Jq,List.replicate_succ',List.cons_append]
theorem WZ (x:Tx):(⟨#[100,111,32]⟩:ByteArray)++ba x=ba (100::111::32::x):=by rw[show (⟨#[100,111,32]⟩:ByteArray)=ba [100,111,32] from rfl,Jq];rfl
theorem rW {s0 s:Tx} (h0:(250<s0.length∧s=s0.take 250)∨(s0.length≤250∧s=s0)) (hs:s.length≤250) {i1 n:Int} (hi1 : -9223372036854775808≤i1∧i1≤9223372036854775807) (hn:(i1<0∧n = -(i1+1))∨(0≤i1∧n=i1)) {k:Nat} (hk6:Int.tmod n 6=(k:Int)) (hk5:k≤5) {t1 t2:Tx} {f1 f2:Int} {gid:Nat} {gm:Int}
  (hA:∀ (x:ByteArray) (K:SV→St→Prop) (st:St),x=ba ([100,111,32]++s)→K8 gid gm st→K (.tuple [.sc (.string (ba t1)),.sc (.int .i64 f1)]) st→ACalls prog 14 [.sc (.string x)] K st)
  (hB:∀ (x:ByteArray) (K:SV→St→Prop) (st:St),x=ba ([100,111,32]++(List.replicate k 40++(s++10::List.replicate k 41)))→K8 gid gm st→K (.tuple [.sc (.string (ba t2)),.sc (.int .i64 f2)]) st→ACalls prog 14 [.sc (.string x)] K st)
  (hab:f1=0→f2=0→t1=t2) {K:SV→St→Prop} {st:St} (hg:K8 gid gm st) (hk:K (.sc (.bool true)) st):ACalls prog 5 [.sc (.string (ba s0)),.sc (.int .i64 i1)] K st:=by
 refine zn [] func5 rfl results5 ntmps5 ?_
 rcases h0 with⟨hl,rfl⟩ | ⟨hl,rfl⟩ <;> rcases hn with⟨hneg,hn⟩ | ⟨hneg,rfl⟩
 ·have c1:decide ((250:Int)<(s0.length:Int))=true:=by simp;omega
  have c2:decide (i1<0)=true:=by simp[hneg]
  have wB:IntKind.i64.wrap (i1+1)=i1+1:=JB (by omega)
  have wC:IntKind.i64.wrap (0-(i1+1))=n:=by rw[JB (by omega)];omega
  simp only[go_sem,zo,gt_iff_lt,c1,qR,c2,wB,wC]
  refine⟨⟨by omega,by omega⟩,?_⟩
  refine zN [] (fun q env s'=>∃ i:Nat,q+i=k∧env=[.sc (.string (ba (s0.take 250))),.sc (.int .i64 n),.any,.any,.any,.sc (.string (ba (List.replicate i 40))),.sc (.string (ba (10::List.replicate i 41))),.sc (.int .i64 i),.any,.any,.any,.any,.any,.any,.any,.any,.any,.any,.any,.any,.any,.any,.any,.any,.any,.any,.any,.any,.any,.any,.any,.any,.any,.any,.any,.any,.any,.any,.any,.any,.any,.any,.any,.any,.any,.any,.any,.any,.any,.any,.any,.any,.any,.any,.any,.any,.any,.any,.any,.any,.any]∧s'=st) (n:=k) ?_ ⟨0,by omega,rfl,rfl⟩ ?_
  ·repeat (first | exact zj | refine zk _ ?_ | refine zg _ ?_ | refine zf _ ?_)
  rintro q env s' ⟨i,hq,rfl,rfl⟩
  by_cases hlt:i<k
  ·have c3:decide ((i:Int)<(k:Int))=true:=by simp;omega
   have w1:IntKind.i64.wrap ((i:Int)+1)=((i+1:Nat):Int):=by rw[IntWalk.i64_in _ (by omega)];rfl
   simp only[go_sem,hk6,c3,w1,Kq,Kj]
   refine⟨by simp;omega,by simp;omega,q-1,_,by omega,?_,i+1,by omega,rfl⟩
   repeat (first | exact zj | refine zk _ ?_ | refine zg _ ?_ | refine zf _ ?_)
  ·have c3:decide ((i:Int)<(k:Int))=false:=by simp;omega
   obtain rfl:i=k:=by omega
   simp only[go_sem,hk6,c3,WZ]
   refine⟨by simp;omega,?_⟩
   refine hA _ _ _ rfl hg ?_
   simp only[go_sem,WZ,Jq]
   refine⟨by simp;omega,by simp;omega,by simp;omega,?_⟩
   refine hB _ _ _ (by simp) hg ?_
   by_cases z1:f1=0
   ·have d1:(f1 != 0)=false:=by simp[z1]
    by_cases z2:f2=0
    ·have d2:(f2 != 0)=false:=by simp[z2]
     have d3:(t1==t2)=true:=by simp[hab z1 z2]
     simp only[go_sem,d1,d2,d3,Zm]
     refine X8 hg ?_
     try simp only[go_sem,d1,d2,d3,Zm]
     exact qi (zC _ _) hk
    ·have d2:(f2 != 0)=true:=by simp[z2]
     simp only[go_sem,d1,d2,Zm]
     refine X8 hg ?_
     try simp only[go_sem,d1,d2,Zm]
     exact qi (zC _ _) hk
   ·have d1:(f1 != 0)=true:=by simp[z1]
    simp only[go_sem,d1,Zm]
    refine X8 hg ?_
    try simp only[go_sem,d1,Zm]
    exact qi (zC _ _) hk
 ·have c1:decide ((250:Int)<(s0.length:Int))=true:=by simp;omega
  have c2:decide (n<0)=false:=by simp;omega
  simp only[go_sem,zo,gt_iff_lt,c1,qR,c2]
  refine⟨⟨by omega,by omega⟩,?_⟩
  refine zN [] (fun q env s'=>∃ i:Nat,q+i=k∧env=[.sc (.string (ba (s0.take 250))),.sc (.int .i64 n),.any,.any,.any,.sc (.string (ba (List.replicate i 40))),.sc (.string (ba (10::List.replicate i 41))),.sc (.int .i64 i),.any,.any,.any,.any,.any,.any,.any,.any,.any,.any,.any,.any,.any,.any,.any,.any,.any,.any,.any,.any,.any,.any,.any,.any,.any,.any,.any,.any,.any,.any,.any,.any,.any,.any,.any,.any,.any,.any,.any,.any,.any,.any,.any,.any,.any,.any,.any,.any,.any,.any,.any,.any,.any]∧s'=st) (n:=k) ?_ ⟨0,by omega,rfl,rfl⟩ ?_
  ·repeat (first | exact zj | refine zk _ ?_ | refine zg _ ?_ | refine zf _ ?_)
  rintro q env s' ⟨i,hq,rfl,rfl⟩
  by_cases hlt:i<k
  ·have c3:decide ((i:Int)<(k:Int))=true:=by simp;omega
   have w1:IntKind.i64.wrap ((i:Int)+1)=((i+1:Nat):Int):=by rw[IntWalk.i64_in _ (by omega)];rfl
   simp only[go_sem,hk6,c3,w1,Kq,Kj]
   refine⟨by simp;omega,by simp;omega,q-1,_,by omega,?_,i+1,by omega,rfl⟩
   repeat (first | exact zj | refine zk _ ?_ | refine zg _ ?_ | refine zf _ ?_)
  ·have c3:decide ((i:Int)<(k:Int))=false:=by simp;omega
   obtain rfl:i=k:=by omega
   simp only[go_sem,hk6,c3,WZ]
   refine⟨by simp;omega,?_⟩
   refine hA _ _ _ rfl hg ?_
   simp only[go_sem,WZ,Jq]
   refine⟨by simp;omega,by simp;omega,by simp;omega,?_⟩
   refine hB _ _ _ (by simp) hg ?_
   by_cases z1:f1=0
   ·have d1:(f1 != 0)=false:=by simp[z1]
    by_cases z2:f2=0
    ·have d2:(f2 != 0)=false:=by simp[z2]
     have d3:(t1==t2)=true:=by simp[hab z1 z2]
     simp only[go_sem,d1,d2,d3,Zm]
     refine X8 hg ?_
     try simp only[go_sem,d1,d2,d3,Zm]
     exact qi (zC _ _) hk
    ·have d2:(f2 != 0)=true:=by simp[z2]
     simp only[go_sem,d1,d2,Zm]
     refine X8 hg ?_
     try simp only[go_sem,d1,d2,Zm]
     exact qi (zC _ _) hk
   ·have d1:(f1 != 0)=true:=by simp[z1]
    simp only[go_sem,d1,Zm]
    refine X8 hg ?_
    try simp only[go_sem,d1,Zm]
    exact qi (zC _ _) hk
 ·have c1:decide ((250:Int)<(s.length:Int))=false:=by simp;omega
  have c2:decide (i1<0)=true:=by simp[hneg]
  have wB:IntKind.i64.wrap (i1+1)=i1+1:=JB (by omega)
  have wC:IntKind.i64.wrap (0-(i1+1))=n:=by rw[JB (by omega)];omega
  simp only[go_sem,zo,gt_iff_lt,c1,qR,c2,wB,wC]
  refine zN [] (fun q env s'=>∃ i:Nat,q+i=k∧env=[.sc (.string (ba (s))),.sc (.int .i64 n),.any,.any,.any,.sc (.string (ba (List.replicate i 40))),.sc (.string (ba (10::List.replicate i 41))),.sc (.int .i64 i),.any,.any,.any,.any,.any,.any,.any,.any,.any,.any,.any,.any,.any,.any,.any,.any,.any,.any,.any,.any,.any,.any,.any,.any,.any,.any,.any,.any,.any,.any,.any,.any,.any,.any,.any,.any,.any,.any,.any,.any,.any,.any,.any,.any,.any,.any,.any,.any,.any,.any,.any,.any,.any]∧s'=st) (n:=k) ?_ ⟨0,by omega,rfl,rfl⟩ ?_
  ·repeat (first | exact zj | refine zk _ ?_ | refine zg _ ?_ | refine zf _ ?_)
  rintro q env s' ⟨i,hq,rfl,rfl⟩
  by_cases hlt:i<k
  ·have c3:decide ((i:Int)<(k:Int))=true:=by simp;omega
   have w1:IntKind.i64.wrap ((i:Int)+1)=((i+1:Nat):Int):=by rw[IntWalk.i64_in _ (by omega)];rfl
   simp only[go_sem,hk6,c3,w1,Kq,Kj]
   refine⟨by simp;omega,by simp;omega,q-1,_,by omega,?_,i+1,by omega,rfl⟩
   repeat (first | exact zj | refine zk _ ?_ | refine zg _ ?_ | refine zf _ ?_)
  ·have c3:decide ((i:Int)<(k:Int))=false:=by simp;omega
   obtain rfl:i=k:=by omega
   simp only[go_sem,hk6,c3,WZ]
   refine⟨by simp;omega,?_⟩
   refine hA _ _ _ rfl hg ?_
   simp only[go_sem,WZ,Jq]
   refine⟨by simp;omega,by simp;omega,by simp;omega,?_⟩
   refine hB _ _ _ (by simp) hg ?_
   by_cases z1:f1=0
   ·have d1:(f1 != 0)=false:=by simp[z1]
    by_cases z2:f2=0
    ·have d2:(f2 != 0)=false:=by simp[z2]
     have d3:(t1==t2)=true:=by simp[hab z1 z2]
     simp only[go_sem,d1,d2,d3,Zm]
     refine X8 hg ?_
     try simp only[go_sem,d1,d2,d3,Zm]
     exact qi (zC _ _) hk
    ·have d2:(f2 != 0)=true:=by simp[z2]
     simp only[go_sem,d1,d2,Zm]
     refine X8 hg ?_
     try simp only[go_sem,d1,d2,Zm]
     exact qi (zC _ _) hk
   ·have d1:(f1 != 0)=true:=by simp[z1]
    simp only[go_sem,d1,Zm]
    refine X8 hg ?_
    try simp only[go_sem,d1,Zm]
    exact qi (zC _ _) hk
 ·have c1:decide ((250:Int)<(s.length:Int))=false:=by simp;omega
  have c2:decide (n<0)=false:=by simp;omega
  simp only[go_sem,zo,gt_iff_lt,c1,qR,c2]
  refine zN [] (fun q env s'=>∃ i:Nat,q+i=k∧env=[.sc (.string (ba (s))),.sc (.int .i64 n),.any,.any,.any,.sc (.string (ba (List.replicate i 40))),.sc (.string (ba (10::List.replicate i 41))),.sc (.int .i64 i),.any,.any,.any,.any,.any,.any,.any,.any,.any,.any,.any,.any,.any,.any,.any,.any,.any,.any,.any,.any,.any,.any,.any,.any,.any,.any,.any,.any,.any,.any,.any,.any,.any,.any,.any,.any,.any,.any,.any,.any,.any,.any,.any,.any,.any,.any,.any,.any,.any,.any,.any,.any,.any]∧s'=st) (n:=k) ?_ ⟨0,by omega,rfl,rfl⟩ ?_
  ·repeat (first | exact zj | refine zk _ ?_ | refine zg _ ?_ | refine zf _ ?_)
  rintro q env s' ⟨i,hq,rfl,rfl⟩
  by_cases hlt:i<k
  ·have c3:decide ((i:Int)<(k:Int))=true:=by simp;omega
   have w1:IntKind.i64.wrap ((i:Int)+1)=((i+1:Nat):Int):=by rw[IntWalk.i64_in _ (by omega)];rfl
   simp only[go_sem,hk6,c3,w1,Kq,Kj]
   refine⟨by simp;omega,by simp;omega,q-1,_,by omega,?_,i+1,by omega,rfl⟩
   repeat (first | exact zj | refine zk _ ?_ | refine zg _ ?_ | refine zf _ ?_)
  ·have c3:decide ((i:Int)<(k:Int))=false:=by simp;omega
   obtain rfl:i=k:=by omega
   simp only[go_sem,hk6,c3,WZ]
   refine⟨by simp;omega,?_⟩
   refine hA _ _ _ rfl hg ?_
   simp only[go_sem,WZ,Jq]
   refine⟨by simp;omega,by simp;omega,by simp;omega,?_⟩
   refine hB _ _ _ (by simp) hg ?_
   by_cases z1:f1=0
   ·have d1:(f1 != 0)=false:=by simp[z1]
    by_cases z2:f2=0
    ·have d2:(f2 != 0)=false:=by simp[z2]
     have d3:(t1==t2)=true:=by simp[hab z1 z2]
     simp only[go_sem,d1,d2,d3,Zm]
     refine X8 hg ?_
     try simp only[go_sem,d1,d2,d3,Zm]
     exact qi (zC _ _) hk
    ·have d2:(f2 != 0)=true:=by simp[z2]
     simp only[go_sem,d1,d2,Zm]
     refine X8 hg ?_
     try simp only[go_sem,d1,d2,Zm]
     exact qi (zC _ _) hk
   ·have d1:(f1 != 0)=true:=by simp[z1]
    simp only[go_sem,d1,Zm]
    refine X8 hg ?_
    try simp only[go_sem,d1,Zm]
    exact qi (zC _ _) hk
theorem fH {gid:Nat} {gm:Int} {K:SV→St→Prop} {st:St} (hg:K8 gid gm st) {s0:Tx} {i1:Int} (hi1 : -9223372036854775808≤i1∧i1≤9223372036854775807) (hk:K (.sc (.bool true)) st):ACalls prog 5 [.sc (.string (ba s0)),.sc (.int .i64 i1)] K st:=by
 obtain⟨s,hsx⟩:∃ s,s=s0.take 250:=⟨_,rfl⟩
 have hs:s.length≤250:=by rw[hsx];simp;omega
 have h0:(250<s0.length∧s=s0.take 250)∨(s0.length≤250∧s=s0):=by
  by_cases h:250<s0.length
  ·exact .inl ⟨h,hsx⟩
  ·exact .inr ⟨by omega,by rw[hsx,List.take_of_length_le (by omega)]⟩
 obtain⟨n,hn,hn0⟩:∃ n:Int,((i1<0∧n = -(i1+1))∨(0≤i1∧n=i1))∧0≤n:=by
  by_cases h:i1<0
  ·exact⟨-(i1+1),.inl ⟨h,rfl⟩,by omega⟩
  ·exact⟨i1,.inr ⟨by omega,rfl⟩,by omega⟩
 obtain⟨w,rfl⟩:=Int.eq_ofNat_of_zero_le hn0
 have hk6:Int.tmod (w:Int) 6=((w % 6:Nat):Int):=(Int.ofNat_tmod w 6).symm
 have hk5:w % 6≤5:=by omega
 generalize w % 6=k at *
 obtain⟨n1,a1,e1,hp,_⟩:=Jy (s:=[100,111,32]++s)
 obtain⟨n2,a2,e2,hq,_⟩:=Jy (s:=[100,111,32]++(List.replicate k 40++(s++10::List.replicate k 41)))
 obtain⟨d1,hd1⟩:=wM n1
 obtain⟨d2,hd2⟩:=wM n2
 have hd1:Dep (d1+d2+1) n1:=hd1.mono (by omega)
 have hd2:Dep (d1+d2+1) n2:=hd2.mono (by omega)
 obtain⟨x1,y1,hx1⟩:=B' (d1+d2) n1
 obtain⟨x2,y2,hx2⟩:=B' (d1+d2) n2
 obtain⟨t1,f1,h1⟩:∃ t1 f1,(e1≠0∧t1=[]∧f1=e1)∨(e1=0∧Dep (d1+d2+1) n1∧Wn (d1+d2) n1=some (t1,f1)):=by
  by_cases h:e1=0
  ·exact⟨x1,y1,.inr ⟨h,hd1,hx1⟩⟩
  ·exact⟨[],e1,.inl ⟨h,rfl,rfl⟩⟩
 obtain⟨t2,f2,h2⟩:∃ t2 f2,(e2≠0∧t2=[]∧f2=e2)∨(e2=0∧Dep (d1+d2+1) n2∧Wn (d1+d2) n2=some (t2,f2)):=by
  by_cases h:e2=0
  ·exact⟨x2,y2,.inr ⟨h,hd2,hx2⟩⟩
  ·exact⟨[],e2,.inl ⟨h,rfl,rfl⟩⟩
 have hl1:([100,111,32]++s:Tx).length≤1000:=by simp;omega
 have hl2:([100,111,32]++(List.replicate k 40++(s++10::List.replicate k 41)):Tx).length≤1000:=by simp;omega
 refine rW h0 hs hi1 hn hk6 hk5 (t1:=t1) (t2:=t2) (f1:=f1) (f2:=f2) (fun x K st hx hg hk=>vQ hp hl1 h1 hx hg hk) (fun x K st hx hg hk=>vQ hq hl2 h2 hx hg hk) (fun z1 z2=>?_) hg hk
 rcases h1 with⟨h,_,h'⟩ | ⟨rfl,_,h1⟩
 ·omega
 rcases h2 with⟨h,_,h'⟩ | ⟨rfl,_,h2⟩
 ·omega
 subst z1;subst z2
 have hs12:=GP (by omega) hp hq
 rcases BP h1 with⟨_,g1,_⟩ | ⟨h,_⟩
 ·rcases BP h2 with⟨_,g2,_⟩ | ⟨h,_⟩
  ·rw[g1,g2,kF _ hs12]
  ·cases h
 ·cases h
end Go.Proofs
