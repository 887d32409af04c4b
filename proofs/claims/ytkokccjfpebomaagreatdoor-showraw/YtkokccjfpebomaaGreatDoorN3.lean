/- The document's parser: tyapp, con. -/
import Derived.Test.YtkokccjfpebomaaGreatDoorN2
set_option linter.all false
set_option maxHeartbeats 4000000
set_option maxRecDepth 8000
namespace Go.AL
theorem fa{T:List Tk}{p q:PS}{t u:Tk}(h:zH T p=some t){k:Int}(hk:t.kind=k)(hs:ZD T p=some (u,q))(h0:k≠0:=by decide):u=t:=by
 unfold ZD at hs;rw[h] at hs;simp only[xmS,xsJ] at hs;rw[if_neg (by omega)] at hs;cases hs;rfl
end Go.AL
namespace Go.Proofs
open Go Go.AL Tryz
theorem rv{T:List Tk}(hT:T.length≤100000){pid:Nat}{I:PM Nd}(hI:∀ p r q,I p=some (r,q)→∃ ty,DC T pid 59 ty∧OJ T ty p=some (r,q)):DC T pid 59 (Y9 T I):=by
 intro p r p' h K st hp hk;refine zA (zp [] func59 rfl results59 ntmps59 ?_);obtain⟨hd,h⟩:=Ev h;rcases h with⟨h1,rfl⟩ | ⟨q1,h1,h2,h3,h4,rfl⟩
 ·simp only[go_sem];refine VB hd h1 (zr hp) ?_;simp only[go_sem,zb hp];exact Xv (m1 :=.full) (m2 :=.full) (z1:=0) (z2:=0) (nd:=Wf) hk (.inr rfl) (.inr rfl)
 obtain⟨ty,hty,hb⟩:=hI _ _ _ h2;unfold OJ at hb;simp only[xoB,xpX] at hb;obtain⟨a0,ha0,x0,p1,h5,hL⟩:=hb;have y1:=zI (YF (p':=q1) hp);unfold qK at y1;have hw2:IntKind.i64.wrap ((q1.deep:Int)-1)=((q1.deep-1:Nat):Int):=by rw[IntWalk.i64_in _ (by omega)];omega
 simp only[go_sem];refine VB hd h1 (zr hp) ?_;simp only[go_sem,zb hp];refine xP ha0 (zm hp) ?_;simp only[go_sem,zb hp];refine Vb hT (by decide) h5 (zm hp) ?_;simp only[go_sem,zb hp];refine ZS (st.length+1) 5 6 0 (Zi 1) (by simp) rfl ?_;rw[QK];simp only[xlA,XG,xlC,xlN,xsS,xsZ,xaA,xcA,xnA,Nat.zero_add,Nat.reduceAdd];refine V3 [] (st.length+1) (fun m env s=>∃ (nd:Nd) (q:PS) (k:Nat) (ex:St),kE T ty m nd q=some (r,q1)∧m+nd.kids.length≤T.length+2∧nd.names=[]∧env=[.ptr pid 0,.any,.ptr st.length 0,.any,.ptr (st.length+1) 0,.any,.any,.any,.any,.any,.any,.any,.any,.any,.any,.any,.any,.any,.any,.any,.any,.any,.any,.any,.any,.any,.any,.any,.any,.any,.any,.any,.any,.any,.any,.any,.any,.any,.any,.any,.any,.any,.any,.any,.any,.any,.any,.any,.any,.any,.any,.any,.any,.any,.any,.any,.any,.any,.any,.any,.any] ∧
  s=st.set pid (.cells (qK T q))++(.cells qv :: .cells (qk (st.length+2) k nd) :: .tok k::ex)) (n:=T.length+2) ?_ ⟨_,_,Zi 1,YB _,zw 27 a0 x0 [],_,0,[],hL,by simp[zw,Nd.kids],rfl,rfl,by rw[QK];rfl⟩ ?_
 ·exact qu
 rintro m env s ⟨nd,q,k,ex,hl,hm,hnm,rfl,rfl⟩;cases m with
 | zero=>cases hl
 | succ m =>
 unfold kE at hl;have y:=zI (YF (p':=q) hp);unfold qK at y;by_cases c0:q.e=0
 rotate_left
 ·have c1:(q.e==0)=false:=by simp[c0]
  rw[if_neg c0] at hl;cases hl;unfold qk qv qK;simp only[go_sem,y.1,y.2.1,y.2.2,c1,hw2,zb hp];exact QL (p':={ q1 with deep:=q1.deep-1 }) hk hnm
 have c1:(q.e==0)=true:=by simp[c0]
 rw[if_pos c0,xoB] at hl;obtain⟨t,ht,hl⟩:=hl;by_cases c3:t.kind=3
 ·have d3:(t.kind==3)=true:=by simp[c3]
  rw[if_pos c3,xoB] at hl;obtain⟨⟨u,p2⟩,h6,hl⟩:=hl;unfold qk qv qK;simp only[go_sem,y.1,y.2.1,y.2.2,c1,zb hp];refine qd ht (zm hp) ?_;simp only[go_sem,d3];refine qQ hT h6 (zm hp) ?_;simp only[go_sem,zb hp];have e6:=fa ht c3 h6;subst e6;refine⟨Tryz.app6d (by omega),m,_,by omega,?_,_,qk (st.length+2) (k+1) (nd.addKid (zw 27 u.pos u.text [])),Zi 1,?_,nd.addKid (zw 27 u.pos u.text []),p2,k+1,_,hl,by rw[zQ];simp;omega,by rw[qh];exact hnm,rfl,rfl⟩
  ·exact qu
  ·rw[LR];exact .cons (SVle.refl _) (.cons (SVle.refl _) (.cons (SVle.refl _) (.cons (SVle.refl _) (.cons (SVle.refl _) (.cons (SVle.elems (LeE.append (LeE.refl _) (.cons (.cons (SVle.refl _) (.cons (SVle.refl _) (.cons (SVle.refl _) (.cons (SVle.refl _) (.cons (SVle.nil .imm 0 1 (.inr rfl)) (.cons (SVle.nil .imm 0 6 (.inr rfl)) .nil)))))) .nil))) .nil)))))
 ·have d3:(t.kind==3)=false:=by simp[c3]
  rw[if_neg c3] at hl;cases b1:isT t [40] with
  | false =>
   rw[if_neg (by rw[b1];decide)] at hl;cases hl;unfold qk qv qK;simp only[go_sem,y.1,y.2.1,y.2.2,c1,zb hp];refine qd ht (zm hp) ?_;simp only[go_sem,d3];refine qj ht b1 (zm hp) ?_;simp only[go_sem,y.1,y.2.1,y.2.2,c1,hw2,zb hp];exact QL (p':={ q1 with deep:=q1.deep-1 }) hk hnm
  | true =>
   rw[if_pos b1] at hl;simp only[xoB,xpX] at hl;obtain⟨u,p2,h6,x,p3,h7,p4,h8,hl⟩:=hl;unfold qk qv qK;simp only[go_sem,y.1,y.2.1,y.2.2,c1,zb hp];refine qd ht (zm hp) ?_;simp only[go_sem,d3];refine qj ht b1 (zm hp) ?_;simp only[go_sem];refine qQ hT h6 (zm hp) ?_;simp only[go_sem,zb hp];refine zB [] [(0,[5]),(0,[5]),(0,[]),(3,[5]),(0,[]),(3,[7]),(0,[]),(1,[8])] mixed rfl ?_;simp only[go_sem];refine⟨_,_,hty _ _ _ h7 _ _ (zm hp) ⟨rfl,rfl⟩,?_⟩;simp only[go_sem,zb hp];rw[zt];refine⟨.slice .full 6 [zq x],?_,?_⟩
   ·simp only[go_sem];exact⟨⟨[],by simp⟩,zM _ _ (.inr rfl) _ [_],.inl rfl⟩
   simp only[go_sem];refine⟨_,_,⟨Tryz.app6d (by omega),rfl,rfl⟩,?_⟩;simp only[go_sem];first | (unfold zf;simp only[ze,zc,zl,xsS,xsZ,xgS,xgZ]) | skip
   refine Ze hT h8 (zm hp) fun _=>?_;simp only[go_sem,zb hp];refine⟨m,_,by omega,?_,_,qk (st.length+2) (k+1) (nd.addKid x),Zi 1,by rw[LR];exact YB _,nd.addKid x,p4,k+1,_,hl,by rw[zQ];simp;omega,by rw[qh];exact hnm,rfl,rfl⟩;exact qu
theorem iP{T:List Tk}(hT:T.length≤100000){pid:Nat}{ty:PM Nd}(hty:DC T pid 59 ty):DC T pid 36 (uj T ty):=by
 intro p r p' h K st hp hk;refine zA (zp [] func36 rfl results36 ntmps36 ?_);unfold uj at h;simp only[xoB,xpX] at h;obtain⟨a0,ha0,x0,p1,h5,b0,h6,hL⟩:=h;simp only[go_sem];refine xP ha0 (zr hp) ?_;simp only[go_sem,zb hp];refine Vb hT (by decide) h5 (zr hp) ?_;simp only[go_sem,zb hp];refine Xo h6 (zm hp) ?_;simp only[go_sem,zb hp];refine ZS (st.length+1) 5 6 0 (Zi 1) (by simp) rfl ?_;rw[QK];simp only[xlA,XG,xlC,xlN,xsS,xsZ,xaA,xcA,xnA,Nat.zero_add,Nat.reduceAdd];refine zx [] (fun m env s=>∃ (nd:Nd) (q:PS) (k:Nat) (more:Bool) (ex:St),FB T ty m more nd q=some (r,p')∧m+nd.kids.length≤T.length+2∧nd.names=[]∧env=[.ptr pid 0,.any,.ptr st.length 0,.ptr (st.length+1) 0,.sc (.bool more),.any,.any,.any,.any,.any,.any,.any,.any,.any,.any,.any,.any,.any,.any,.any,.any,.any,.any,.any,.any,.any,.any,.any,.any,.any,.any,.any,.any,.any,.any,.any,.any,.any,.any] ∧
  s=st.set pid (.cells (qK T q))++(.cells qv :: .cells (qk (st.length+2) k nd) :: .tok k::ex)) (n:=T.length+2) ?_ ⟨_,_,0,_,[],hL,by simp[zw,Nd.kids],rfl,rfl,rfl⟩ ?_
 ·exact qu
 rintro m env s ⟨nd,q,k,more,ex,hl,hm,hnm,rfl,rfl⟩;cases m with
 | zero=>cases hl
 | succ m =>
 unfold FB at hl;have y:=zI (YF (p':=q) hp);unfold qK at y;cases more with
 | false =>
  rw[if_neg (by simp)] at hl;cases hl;unfold qk qv;simp only[go_sem];exact QL hk hnm
 | true =>
  by_cases c0:q.e=0
  rotate_left
  ·have c1:(q.e==0)=false:=by simp[c0]
   rw[if_neg (by simp[c0])] at hl;cases hl;unfold qk qv qK;simp only[go_sem,y.1,y.2.1,y.2.2,c1,zb hp];exact QL hk hnm
  have c1:(q.e==0)=true:=by simp[c0]
  rw[if_pos ⟨rfl,c0⟩] at hl;simp only[xoB,xpX] at hl;obtain⟨u,p2,h7,p3,h8,x,p4,h9,b2,h10,hl⟩:=hl;unfold qk qv qK;by_cases c4:nd.kids.length=4
  ·have l1:((nd.kids.length:Int)==4)=true:=by simp[c4]
   unfold HZ at h8;rw[if_pos c4] at h8;simp only[go_sem,y.1,y.2.1,y.2.2,c1,zb hp];refine qQ hT h7 (zm hp) ?_;simp only[go_sem,zb hp,xlM,l1];refine Qw h8 (zm hp) fun _=>?_;simp only[go_sem,zb hp];refine zB [] [(0,[5]),(0,[5]),(0,[]),(3,[5]),(0,[]),(3,[7]),(0,[]),(1,[8])] mixed rfl ?_;simp only[go_sem];refine⟨_,_,hty _ _ _ h9 _ _ (zm hp) ⟨rfl,rfl⟩,?_⟩;simp only[go_sem,zb hp];rw[zt];refine⟨.slice .full 6 [zq x],?_,?_⟩
   ·simp only[go_sem];exact⟨⟨[],by simp⟩,zM _ _ (.inr rfl) _ [_],.inl rfl⟩
   simp only[go_sem];refine⟨_,_,⟨Tryz.app6d (by omega),rfl,rfl⟩,?_⟩;simp only[go_sem];first | (unfold zf;simp only[ze,zc,zl,xsS,xsZ,xgS,xgZ]) | skip
   refine Xo h10 (zm hp) ?_;simp only[go_sem,zb hp];refine⟨m,_,by omega,?_,nd.addKid x,p4,k+1,b2,_,hl,by rw[zQ];simp;omega,by rw[qh];exact hnm,rfl,by rw[qV,qT,Zv,Zu,zQ,xmA];rfl⟩;exact qu
  ·have l1:((nd.kids.length:Int)==4)=false:=by simp;omega
   unfold HZ at h8;rw[if_neg c4] at h8;cases h8;simp only[go_sem,y.1,y.2.1,y.2.2,c1,zb hp];refine qQ hT h7 (zm hp) ?_;simp only[go_sem,zb hp,xlM,l1];refine zB [] [(0,[5]),(0,[5]),(0,[]),(3,[5]),(0,[]),(3,[7]),(0,[]),(1,[8])] mixed rfl ?_;simp only[go_sem];refine⟨_,_,hty _ _ _ h9 _ _ (zm hp) ⟨rfl,rfl⟩,?_⟩;simp only[go_sem,zb hp];rw[zt];refine⟨.slice .full 6 [zq x],?_,?_⟩
   ·simp only[go_sem];exact⟨⟨[],by simp⟩,zM _ _ (.inr rfl) _ [_],.inl rfl⟩
   simp only[go_sem];refine⟨_,_,⟨Tryz.app6d (by omega),rfl,rfl⟩,?_⟩;simp only[go_sem];first | (unfold zf;simp only[ze,zc,zl,xsS,xsZ,xgS,xgZ]) | skip
   refine Xo h10 (zm hp) ?_;simp only[go_sem,zb hp];refine⟨m,_,by omega,?_,nd.addKid x,p4,k+1,b2,_,hl,by rw[zQ];simp;omega,by rw[qh];exact hnm,rfl,by rw[qV,qT,Zv,Zu,zQ,xmA];rfl⟩;exact qu
end Go.Proofs
namespace Go.AL
theorem YU{T:List Tk}{part:PM Nd}{a b c:Tx}{n:Nat}{nd r:Nd}{p q:PS}(h:W4 T part a b c n nd p=some (r,q)):∃ m t,n=m+1∧zH T p=some t ∧
  (if UF t a b c≠[] then (ZD T p).bind fun r=>(part r.2).bind fun q=>W4 T part a b c m (zw 13 nd.pos (UF t a b c) [nd,q.1]) q.2 else some (nd,p))=some (r,q):=by
 cases n with
 | zero=>cases h
 | succ m =>
  unfold W4 at h;rw[xoB] at h;obtain⟨t,h1,h2⟩:=h;exact⟨m,t,rfl,h1,h2⟩
theorem ki{x y:SV}(h:SVle (norm1 x) y):SVle x y:=fun st σ w v hr=>h st σ w v hr.norm1
theorem U0{n:Nat}{k a m:Int}{t:Tx}{y:SV}(h:Ids n y):Ids n (.agg [.sc (.int .i64 k),.sc (.string (ba t)),.sc (.int .i64 m),.sc (.int .i64 a),.slice .full 0 [],y]):=by
 rw[Qc];simp only[List.forall_mem_cons,Y8,true_and];exact⟨zT (.inr rfl) (fun x hx=>by cases hx),h,fun x hx=>by cases hx⟩
theorem yQ{k a:Int}{t:Tx}{n x:Nd}:SVles [.sc (.int .i64 k),.sc (.string (ba t)),.sc (.int .i64 0),.sc (.int .i64 a),.slice .full 0 [],.slice .full 6 [.agg (zn n),zq x]] (zn (zw k a t [n,x])):=by
 refine .cons (SVle.refl _) (.cons (SVle.refl _) (.cons (SVle.refl _) (.cons (SVle.refl _) (.cons ?_ (.cons ?_ .nil)))))
 ·exact ki (fF (l:=[]) (.inr rfl))
 ·refine fun st σ w v hv=>?_;have h1:=SVle.elems (m :=.full) (z:=6) (l:=[.agg (zn n),zq x]) (r:=[zq n,zq x]) (.cons (by rw[za];exact YB _) (.cons (YB _) .nil)) _ _ _ _ hv;exact ki (dk (m :=.full) (l:=[n,x]) (.inl rfl)) _ _ _ _ h1
theorem bI(n:Nat)(a b:Nd):Ids n (.slice .imm 6 [.agg (zn a),zq b]) :=
 zT (.inl rfl) fun x hx y hy=>by
  simp only[List.mem_cons,List.not_mem_nil,or_false] at hx;rcases hx with rfl | rfl
  ·have:=JX n a;rw[qG,Qc] at this;exact this y hy
  ·have:=JX n b;rw[qG,Qc] at this;rw[za] at hy;exact this y hy
theorem kh{T:List Tk}{pid:Nat}{p':PS}{k a:Int}{t:Tx}{n x:Nd}{st:St}{K:SV→St→Prop}(hk:K (zq (zw k a t [n,x])) (st.set pid (.cells (qK T p')))){ex:St} :
  YW st (wl K) (.agg [.sc (.int .i64 k),.sc (.string (ba t)),.sc (.int .i64 0),.sc (.int .i64 a),.slice .full 0 [],.slice .full 6 [.agg (zn n),zq x]]) (st.set pid (.cells (qK T p'))++ex):=by
 refine⟨_,ex,rfl,(Mod.refl _).set _ _ (VO _ _ _),?_,_,?_,hk⟩
 ·show Ids _ (.agg [.sc (.int .i64 k),.sc (.string (ba t)),.sc (.int .i64 0),.sc (.int .i64 a),.slice .imm 0 [],.slice .imm 6 [.agg (zn n),zq x]]);rw[Qc];simp only[List.forall_mem_cons,Y8,true_and];exact⟨zT (.inl rfl) (fun x hx=>by cases hx),bI _ n x,fun x hx=>by cases hx⟩
 ·show SVle (.agg [.sc (.int .i64 k),.sc (.string (ba t)),.sc (.int .i64 0),.sc (.int .i64 a),.slice .imm 0 [],.slice .imm 6 [.agg (zn n),zq x]]) _;exact SVle.agg (.cons (SVle.refl _) (.cons (SVle.refl _) (.cons (SVle.refl _) (.cons (SVle.refl _) (.cons (SVle.nil .imm 0 1 (.inr rfl)) (.cons (SVle.elems (.cons (by rw[za];exact YB _) (.cons (YB _) .nil))) .nil))))))
theorem Yv(n:Nat)(a b:Nd):Ids n (.slice .full 6 [.agg (zn a),zq b]) :=
 zT (.inr rfl) fun x hx y hy=>by
  have h2:=zM n .full (.inr rfl) 6 [a,b];simp only[List.mem_cons,List.not_mem_nil,or_false] at hx;rcases hx with rfl | rfl
  ·have:=JX n a;rw[qG,Qc] at this;exact this y hy
  ·have:=JX n b;rw[qG,Qc] at this;rw[za] at hy;exact this y hy
end Go.AL
namespace Go.Proofs
open Go Go.AL Tryz
theorem l5{T:List Tk}(hT:T.length≤100000){pid:Nat}{part:PM Nd}(hpt:DC T pid 127 part):DC T pid 110 (Dk T part [42] [47] [37]):=by
 intro p r p' h K st hp hk;refine zA (zp [] func110 rfl results110 ntmps110 ?_);unfold Dk at h;simp only[xoB,xpX] at h;obtain⟨n0,p1,h1,hL⟩:=h;obtain⟨m0,t0,hm0,ht0,_⟩:=YU hL;simp only[go_sem];refine hpt _ _ _ h1 _ _ (zr hp) ?_;simp only[go_sem,zb hp];refine uk ht0 (zm hp) ?_;simp only[go_sem,zb hp];refine V3 [] (st.length+1) (fun m env s=>∃ (nd:Nd) (q:PS) (t:Tk) (ex:St),W4 T part [42] [47] [37] m nd q=some (r,p')∧zH T q=some t∧env=[.ptr pid 0,.any,.ptr st.length 0,.ptr (st.length+1) 0,.sc (.string (ba (UF t [42] [47] [37]))),.any,.any,.any,.any,.any,.any,.any,.any,.any,.any,.any,.any,.any,.any,.any,.any,.any,.any,.any] ∧
  s=st.set pid (.cells (qK T q))++(.cells qv :: .cells (zn nd)::ex)) (n:=T.length+2) ?_ ⟨_,_,Zi 1,YB _,n0,_,t0,[],hL,ht0,rfl,by rw[QK,za];rfl⟩ ?_
 ·exact qu
 rintro m env s ⟨nd,q,t,ex,hl,ht,rfl,rfl⟩;obtain⟨m,t',rfl,ht',hl⟩:=YU hl;rw[ht] at ht';cases ht';obtain⟨o,ho⟩:∃ o,UF t [42] [47] [37]=o:=⟨_,rfl⟩;rw[ho] at hl;by_cases c0:o=[]
 ·have c1:(o==[])=true:=by simp[c0]
  rw[if_neg (by simp[c0])] at hl;cases hl;rw[ho];unfold zn qv;simp only[go_sem,QH,Y2,List.toList_toArray,c1];exact Xv (m1 :=.imm) (m2 :=.imm) (z1:=1) (z2:=6) hk (.inl rfl) (.inl rfl)
 ·have c1:(o==[])=false:=by simp[c0]
  rw[if_pos c0] at hl;simp only[xoB,xpX] at hl;obtain⟨u,p2,h2,x,p3,h3,hl⟩:=hl;obtain⟨m1,t1,rfl,ht1,_⟩:=YU hl;rw[ho];unfold zn qv;simp only[go_sem,QH,Y2,List.toList_toArray,c1];refine qQ hT h2 (zm hp) ?_;simp only[go_sem,zb hp];refine zB [] [(0,[8]),(0,[8]),(0,[8]),(0,[8]),(0,[]),(3,[8]),(0,[]),(0,[]),(1,[9])] mixed rfl ?_;simp only[go_sem];refine⟨_,_,hpt _ _ _ h3 _ _ (zm hp) ⟨rfl,rfl⟩,?_⟩;simp only[go_sem,zb hp];rw[zt];refine⟨.slice .full 6 [.agg (zn nd),zq x],?_,?_⟩
  ·unfold zn;simp only[go_sem];exact⟨⟨[],by simp⟩,Yv _ nd x,.inl rfl⟩
  rw[zt];refine⟨.agg [.sc (.int .i64 13),.sc (.string (ba o)),.sc (.int .i64 0),.sc (.int .i64 nd.pos),.slice .full 0 [],.slice .full 6 [.agg (zn nd),zq x]],?_,?_⟩
  ·unfold zn;simp only[go_sem];exact⟨⟨[],by simp⟩,U0 (Yv _ nd x),.inl rfl⟩
  unfold zn;simp only[go_sem];refine uk ht1 (zm hp) ?_;simp only[go_sem,zb hp];refine⟨_,_,Nat.lt_succ_self _,?_,_,_,Zi 1,yQ,zw 13 nd.pos o [nd,x],p3,t1,_,hl,ht1,rfl,rfl⟩;exact qu
theorem i7{T:List Tk}(hT:T.length≤100000){pid:Nat}{part:PM Nd}(hpt:DC T pid 110 part):DC T pid 85 (Dk T part [43] [45] [94]):=by
 intro p r p' h K st hp hk;refine zA (zp [] func85 rfl results85 ntmps85 ?_);unfold Dk at h;simp only[xoB,xpX] at h;obtain⟨n0,p1,h1,hL⟩:=h;obtain⟨m0,t0,hm0,ht0,_⟩:=YU hL;simp only[go_sem];refine hpt _ _ _ h1 _ _ (zr hp) ?_;simp only[go_sem,zb hp];refine uk ht0 (zm hp) ?_;simp only[go_sem,zb hp];refine V3 [] (st.length+1) (fun m env s=>∃ (nd:Nd) (q:PS) (t:Tk) (ex:St),W4 T part [43] [45] [94] m nd q=some (r,p')∧zH T q=some t∧env=[.ptr pid 0,.any,.ptr st.length 0,.ptr (st.length+1) 0,.sc (.string (ba (UF t [43] [45] [94]))),.any,.any,.any,.any,.any,.any,.any,.any,.any,.any,.any,.any,.any,.any,.any,.any,.any,.any,.any] ∧
  s=st.set pid (.cells (qK T q))++(.cells qv :: .cells (zn nd)::ex)) (n:=T.length+2) ?_ ⟨_,_,Zi 1,YB _,n0,_,t0,[],hL,ht0,rfl,by rw[QK,za];rfl⟩ ?_
 ·exact qu
 rintro m env s ⟨nd,q,t,ex,hl,ht,rfl,rfl⟩;obtain⟨m,t',rfl,ht',hl⟩:=YU hl;rw[ht] at ht';cases ht';obtain⟨o,ho⟩:∃ o,UF t [43] [45] [94]=o:=⟨_,rfl⟩;rw[ho] at hl;by_cases c0:o=[]
 ·have c1:(o==[])=true:=by simp[c0]
  rw[if_neg (by simp[c0])] at hl;cases hl;rw[ho];unfold zn qv;simp only[go_sem,QH,Y2,List.toList_toArray,c1];exact Xv (m1 :=.imm) (m2 :=.imm) (z1:=1) (z2:=6) hk (.inl rfl) (.inl rfl)
 ·have c1:(o==[])=false:=by simp[c0]
  rw[if_pos c0] at hl;simp only[xoB,xpX] at hl;obtain⟨u,p2,h2,x,p3,h3,hl⟩:=hl;obtain⟨m1,t1,rfl,ht1,_⟩:=YU hl;rw[ho];unfold zn qv;simp only[go_sem,QH,Y2,List.toList_toArray,c1];refine qQ hT h2 (zm hp) ?_;simp only[go_sem,zb hp];refine zB [] [(0,[8]),(0,[8]),(0,[8]),(0,[8]),(0,[]),(3,[8]),(0,[]),(0,[]),(1,[9])] mixed rfl ?_;simp only[go_sem];refine⟨_,_,hpt _ _ _ h3 _ _ (zm hp) ⟨rfl,rfl⟩,?_⟩;simp only[go_sem,zb hp];rw[zt];refine⟨.slice .full 6 [.agg (zn nd),zq x],?_,?_⟩
  ·unfold zn;simp only[go_sem];exact⟨⟨[],by simp⟩,Yv _ nd x,.inl rfl⟩
  rw[zt];refine⟨.agg [.sc (.int .i64 13),.sc (.string (ba o)),.sc (.int .i64 0),.sc (.int .i64 nd.pos),.slice .full 0 [],.slice .full 6 [.agg (zn nd),zq x]],?_,?_⟩
  ·unfold zn;simp only[go_sem];exact⟨⟨[],by simp⟩,U0 (Yv _ nd x),.inl rfl⟩
  unfold zn;simp only[go_sem];refine uk ht1 (zm hp) ?_;simp only[go_sem,zb hp];refine⟨_,_,Nat.lt_succ_self _,?_,_,_,Zi 1,yQ,zw 13 nd.pos o [nd,x],p3,t1,_,hl,ht1,rfl,rfl⟩;exact qu
theorem Al{T:List Tk}(hT:T.length≤100000){pid:Nat}{e pt:PM Nd}(hs:DC T pid 85 (lN T e pt)):DC T pid 60 (GV T e pt):=by
 intro p r p' h K st hp hk;refine zA (zp [] func60 rfl results60 ntmps60 ?_);unfold GV at h;simp only[xoB,xpX] at h;obtain⟨nd,p1,h1,t,ht,h⟩:=h;obtain⟨o,ho⟩:∃ o,UF t [61] [60] [61]=o:=⟨_,rfl⟩;rw[ho] at h;by_cases c0:o=[]
 ·have c1:(o==[])=true:=by simp[c0]
  rw[if_neg (by simp[c0])] at h;cases h;simp only[go_sem];refine hs _ _ _ h1 _ _ (zr hp) ?_;simp only[go_sem,zb hp];refine Y0 ht ho (zm hp) ?_;simp only[go_sem,zb hp,QH,Y2,List.toList_toArray,c1];exact QJ hk
 ·have c1:(o==[])=false:=by simp[c0]
  rw[if_pos c0] at h;simp only[xoB,xoM,xpX,xpJ] at h;obtain⟨u,p2,h2,x,p3,h3,rfl,rfl⟩:=h;simp only[go_sem];refine hs _ _ _ h1 _ _ (zr hp) ?_;simp only[go_sem,zb hp];refine Y0 ht ho (zm hp) ?_;simp only[go_sem,zb hp,QH,Y2,List.toList_toArray,c1];first | (unfold zf;simp only[ze,zc,zl,xsS,xsZ,xgS,xgZ]) | skip
  refine qQ hT h2 (zm hp) ?_;simp only[go_sem,zb hp];refine zB [] [(0,[8]),(0,[8]),(0,[8]),(0,[8]),(0,[]),(3,[8]),(0,[]),(0,[]),(1,[9])] mixed rfl ?_;simp only[go_sem,za];refine⟨_,_,hs _ _ _ h3 _ _ (zm hp) ⟨rfl,rfl⟩,?_⟩;simp only[go_sem,zb hp];rw[zt];refine⟨.slice .full 6 [.agg (zn nd),zq x],?_,?_⟩
  ·unfold zn;simp only[go_sem];exact⟨⟨[],by simp⟩,Yv _ nd x,.inl rfl⟩
  rw[zt];refine⟨.agg [.sc (.int .i64 13),.sc (.string (ba o)),.sc (.int .i64 0),.sc (.int .i64 nd.pos),.slice .full 0 [],.slice .full 6 [.agg (zn nd),zq x]],?_,?_⟩
  ·unfold zn;simp only[go_sem];exact⟨⟨[],by simp⟩,U0 (Yv _ nd x),.inl rfl⟩
  unfold zn;simp only[go_sem];exact kh hk
end Go.Proofs
