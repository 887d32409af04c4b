/- The document's parser: tyapp, con. -/
import Derived.Test.YtkokccjfpebomaaGreatDoorN2
set_option linter.all false
set_option maxHeartbeats 4000000
set_option maxRecDepth 8000
namespace Go.AL
theorem pQ{T:List Tk}{p q:PS}{t u:Tk}(h:zE T p=some t){k:Int}(hk:t.kind=k)(hs:Zv T p=some (u,q))(h0:k≠0:=by decide):u=t:=by
 unfold Zv at hs;rw[h] at hs;simp only[xmS,xsJ] at hs;rw[if_neg (by omega)] at hs;cases hs;rfl
end Go.AL
namespace Go.Proofs
open Go Go.AL Tryz
theorem o6{T:List Tk}(hT:T.length≤100000){pid:Nat}{I:PM Nd}(hI:∀ p r q,I p=some (r,q)→∃ ty,DC T pid 59 ty∧Is T ty p=some (r,q)):DC T pid 59 (YT T I):=by
 intro p r p' h K st hp hk;refine zw (zl [] func59 rfl results59 ntmps59 ?_);obtain⟨hd,h⟩:=HD h;rcases h with⟨h1,rfl⟩ | ⟨q1,h1,h2,h3,h4,rfl⟩
 ·simp only[go_sem];refine Vb hd h1 (zm hp) ?_;simp only[go_sem,zb hp];exact Xf (m1 :=.full) (m2 :=.full) (z1:=0) (z2:=0) (nd:=VQ) hk (.inr rfl) (.inr rfl)
 obtain⟨ty,hty,hb⟩:=hI _ _ _ h2;unfold Is at hb;simp only[xoB,xpX] at hb;obtain⟨a0,ha0,x0,p1,h5,hL⟩:=hb;have y1:=zF (Yo (p':=q1) hp);unfold qz at y1;have hw2:IntKind.i64.wrap ((q1.deep:Int)-1)=((q1.deep-1:Nat):Int):=by rw[IntWalk.i64_in _ (by omega)];omega
 simp only[go_sem];refine Vb hd h1 (zm hp) ?_;simp only[go_sem,zb hp];refine uK ha0 (zj hp) ?_;simp only[go_sem,zb hp];refine JU hT (by decide) h5 (zj hp) ?_;simp only[go_sem,zb hp];refine Z2 (st.length+1) 5 6 0 (Za 1) (by simp) rfl ?_;rw[Qu];simp only[xlA,Xv,xlC,xlN,xsS,xsZ,xaA,xcA,xnA,Nat.zero_add,Nat.reduceAdd];refine VE [] (st.length+1) (fun m env s=>∃ (nd:Nd) (q:PS) (k:Nat) (ex:St),jq T ty m nd q=some (r,q1)∧m+nd.kids.length≤T.length+2∧nd.names=[]∧env=(.ptr pid 0 :: .any :: .ptr st.length 0 :: .any :: .ptr (st.length+1) 0::JW (X3 (XD []))) ∧
  s=st.set pid (.cells (qz T q))++(.cells qu :: .cells (qg (st.length+2) k nd) :: .tok k::ex)) (n:=T.length+2) ?_ ⟨_,_,Za 1,Yp _,zr 27 a0 x0 [],_,0,[],hL,by simp[zr,Nd.kids],rfl,rfl,by rw[Qu];rfl⟩ ?_
 ·exact qv
 rintro m env s ⟨nd,q,k,ex,hl,hm,hnm,rfl,rfl⟩;cases m with
 | zero=>cases hl
 | succ m =>
 unfold jq at hl;have y:=zF (Yo (p':=q) hp);unfold qz at y;by_cases c0:q.e=0
 rotate_left
 ·have c1:(q.e==0)=false:=by simp[c0]
  rw[if_neg c0] at hl;cases hl;unfold qg qu qz;simp only[go_sem,y.1,y.2.1,y.2.2,c1,hw2,zb hp];exact Qx (p':={ q1 with deep:=q1.deep-1 }) hk hnm
 have c1:(q.e==0)=true:=by simp[c0]
 rw[if_pos c0,xoB] at hl;obtain⟨t,ht,hl⟩:=hl;by_cases c3:t.kind=3
 ·have d3:(t.kind==3)=true:=by simp[c3]
  rw[if_pos c3,xoB] at hl;obtain⟨⟨u,p2⟩,h6,hl⟩:=hl;unfold qg qu qz;simp only[go_sem,y.1,y.2.1,y.2.2,c1,zb hp];refine zX ht (zj hp) ?_;simp only[go_sem,d3];refine qH hT h6 (zj hp) ?_;simp only[go_sem,zb hp];have e6:=pQ ht c3 h6;subst e6;refine⟨Tryz.app6d (by omega),m,_,by omega,?_,_,qg (st.length+2) (k+1) (nd.addKid (zr 27 u.pos u.text [])),Za 1,?_,nd.addKid (zr 27 u.pos u.text []),p2,k+1,_,hl,by rw[zM];simp;omega,by rw[qb];exact hnm,rfl,rfl⟩
  ·exact qv
  ·rw[F9];exact .cons (SVle.refl _) (.cons (SVle.refl _) (.cons (SVle.refl _) (.cons (SVle.refl _) (.cons (SVle.refl _) (.cons (SVle.elems (LeE.append (LeE.refl _) (.cons (.cons (SVle.refl _) (.cons (SVle.refl _) (.cons (SVle.refl _) (.cons (SVle.refl _) (.cons (SVle.nil .imm 0 1 (.inr rfl)) (.cons (SVle.nil .imm 0 6 (.inr rfl)) .nil)))))) .nil))) .nil)))))
 ·have d3:(t.kind==3)=false:=by simp[c3]
  rw[if_neg c3] at hl;cases b1:isT t [40] with
  | false =>
   rw[if_neg (by rw[b1];decide)] at hl;cases hl;unfold qg qu qz;simp only[go_sem,y.1,y.2.1,y.2.2,c1,zb hp];refine zX ht (zj hp) ?_;simp only[go_sem,d3];refine qf ht b1 (zj hp) ?_;simp only[go_sem,y.1,y.2.1,y.2.2,c1,hw2,zb hp];exact Qx (p':={ q1 with deep:=q1.deep-1 }) hk hnm
  | true =>
   rw[if_pos b1] at hl;simp only[xoB,xpX] at hl;obtain⟨u,p2,h6,x,p3,h7,p4,h8,hl⟩:=hl;unfold qg qu qz;simp only[go_sem,y.1,y.2.1,y.2.2,c1,zb hp];refine zX ht (zj hp) ?_;simp only[go_sem,d3];refine qf ht b1 (zj hp) ?_;simp only[go_sem];refine qH hT h6 (zj hp) ?_;simp only[go_sem,zb hp];refine zA [] [(0,[5]),(0,[5]),(0,[]),(3,[5]),(0,[]),(3,[7]),(0,[]),(1,[8])] mixed rfl ?_;simp only[go_sem];refine⟨_,_,hty _ _ _ h7 _ _ (zj hp) ⟨rfl,rfl⟩,?_⟩;simp only[go_sem,zb hp];rw[zp];refine⟨.slice .full 6 [zq x],?_,?_⟩
   ·simp only[go_sem];exact⟨⟨[],by simp⟩,zK _ _ (.inr rfl) _ [_],.inl rfl⟩
   simp only[go_sem];refine⟨_,_,⟨Tryz.app6d (by omega),rfl,rfl⟩,?_⟩;simp only[go_sem];try (unfold zd;simp only[qc])
   refine q9 hT h8 (zj hp) fun _=>?_;simp only[go_sem,zb hp];refine⟨m,_,by omega,?_,_,qg (st.length+2) (k+1) (nd.addKid x),Za 1,by rw[F9];exact Yp _,nd.addKid x,p4,k+1,_,hl,by rw[zM];simp;omega,by rw[qb];exact hnm,rfl,rfl⟩;exact qv
theorem lO{T:List Tk}(hT:T.length≤100000){pid:Nat}{ty:PM Nd}(hty:DC T pid 59 ty):DC T pid 36 (wX T ty):=by
 intro p r p' h K st hp hk;refine zw (zl [] func36 rfl results36 ntmps36 ?_);unfold wX at h;simp only[xoB,xpX] at h;obtain⟨a0,ha0,x0,p1,h5,b0,h6,hL⟩:=h;simp only[go_sem];refine uK ha0 (zm hp) ?_;simp only[go_sem,zb hp];refine JU hT (by decide) h5 (zm hp) ?_;simp only[go_sem,zb hp];refine Q2 h6 (zj hp) ?_;simp only[go_sem,zb hp];refine Z2 (st.length+1) 5 6 0 (Za 1) (by simp) rfl ?_;rw[Qu];simp only[xlA,Xv,xlC,xlN,xsS,xsZ,xaA,xcA,xnA,Nat.zero_add,Nat.reduceAdd];refine zt [] (fun m env s=>∃ (nd:Nd) (q:PS) (k:Nat) (more:Bool) (ex:St),BF T ty m more nd q=some (r,p')∧m+nd.kids.length≤T.length+2∧nd.names=[]∧env=(.ptr pid 0 :: .any :: .ptr st.length 0 :: .ptr (st.length+1) 0 :: .sc (.bool more) :: .any :: .any::XD []) ∧
  s=st.set pid (.cells (qz T q))++(.cells qu :: .cells (qg (st.length+2) k nd) :: .tok k::ex)) (n:=T.length+2) ?_ ⟨_,_,0,_,[],hL,by simp[zr,Nd.kids],rfl,rfl,rfl⟩ ?_
 ·exact qv
 rintro m env s ⟨nd,q,k,more,ex,hl,hm,hnm,rfl,rfl⟩;cases m with
 | zero=>cases hl
 | succ m =>
 unfold BF at hl;have y:=zF (Yo (p':=q) hp);unfold qz at y;cases more with
 | false =>
  rw[if_neg (by simp)] at hl;cases hl;unfold qg qu;simp only[go_sem];exact Qx hk hnm
 | true =>
  by_cases c0:q.e=0
  rotate_left
  ·have c1:(q.e==0)=false:=by simp[c0]
   rw[if_neg (by simp[c0])] at hl;cases hl;unfold qg qu qz;simp only[go_sem,y.1,y.2.1,y.2.2,c1,zb hp];exact Qx hk hnm
  have c1:(q.e==0)=true:=by simp[c0]
  rw[if_pos ⟨rfl,c0⟩] at hl;simp only[xoB,xpX] at hl;obtain⟨u,p2,h7,p3,h8,x,p4,h9,b2,h10,hl⟩:=hl;unfold qg qu qz;by_cases c4:nd.kids.length=4
  ·have l1:((nd.kids.length:Int)==4)=true:=by simp[c4]
   unfold U5 at h8;rw[if_pos c4] at h8;simp only[go_sem,y.1,y.2.1,y.2.2,c1,zb hp];refine qH hT h7 (zj hp) ?_;simp only[go_sem,zb hp,xlM,l1];refine Qk h8 (zj hp) fun _=>?_;simp only[go_sem,zb hp];refine zA [] [(0,[5]),(0,[5]),(0,[]),(3,[5]),(0,[]),(3,[7]),(0,[]),(1,[8])] mixed rfl ?_;simp only[go_sem];refine⟨_,_,hty _ _ _ h9 _ _ (zj hp) ⟨rfl,rfl⟩,?_⟩;simp only[go_sem,zb hp];rw[zp];refine⟨.slice .full 6 [zq x],?_,?_⟩
   ·simp only[go_sem];exact⟨⟨[],by simp⟩,zK _ _ (.inr rfl) _ [_],.inl rfl⟩
   simp only[go_sem];refine⟨_,_,⟨Tryz.app6d (by omega),rfl,rfl⟩,?_⟩;simp only[go_sem];try (unfold zd;simp only[qc])
   refine Q2 h10 (zj hp) ?_;simp only[go_sem,zb hp];refine⟨m,_,by omega,?_,nd.addKid x,p4,k+1,b2,_,hl,by rw[zM];simp;omega,by rw[qb];exact hnm,rfl,by rw[qK,qI,Zo,Zn,zM,xmA];rfl⟩;exact qv
  ·have l1:((nd.kids.length:Int)==4)=false:=by simp;omega
   unfold U5 at h8;rw[if_neg c4] at h8;cases h8;simp only[go_sem,y.1,y.2.1,y.2.2,c1,zb hp];refine qH hT h7 (zj hp) ?_;simp only[go_sem,zb hp,xlM,l1];refine zA [] [(0,[5]),(0,[5]),(0,[]),(3,[5]),(0,[]),(3,[7]),(0,[]),(1,[8])] mixed rfl ?_;simp only[go_sem];refine⟨_,_,hty _ _ _ h9 _ _ (zj hp) ⟨rfl,rfl⟩,?_⟩;simp only[go_sem,zb hp];rw[zp];refine⟨.slice .full 6 [zq x],?_,?_⟩
   ·simp only[go_sem];exact⟨⟨[],by simp⟩,zK _ _ (.inr rfl) _ [_],.inl rfl⟩
   simp only[go_sem];refine⟨_,_,⟨Tryz.app6d (by omega),rfl,rfl⟩,?_⟩;simp only[go_sem];try (unfold zd;simp only[qc])
   refine Q2 h10 (zj hp) ?_;simp only[go_sem,zb hp];refine⟨m,_,by omega,?_,nd.addKid x,p4,k+1,b2,_,hl,by rw[zM];simp;omega,by rw[qb];exact hnm,rfl,by rw[qK,qI,Zo,Zn,zM,xmA];rfl⟩;exact qv
end Go.Proofs
namespace Go.AL
theorem YF{T:List Tk}{part:PM Nd}{a b c:Tx}{n:Nat}{nd r:Nd}{p q:PS}(h:Wz T part a b c n nd p=some (r,q)):∃ m t,n=m+1∧zE T p=some t ∧
  (if K4 t a b c≠[] then (Zv T p).bind fun r=>(part r.2).bind fun q=>Wz T part a b c m (zr 13 nd.pos (K4 t a b c) [nd,q.1]) q.2 else some (nd,p))=some (r,q):=by
 cases n with
 | zero=>cases h
 | succ m =>
  unfold Wz at h;rw[xoB] at h;obtain⟨t,h1,h2⟩:=h;exact⟨m,t,rfl,h1,h2⟩
theorem jl{x y:SV}(h:SVle (norm1 x) y):SVle x y:=fun st σ w v hr=>h st σ w v hr.norm1
theorem Uu{n:Nat}{k a m:Int}{t:Tx}{y:SV}(h:Ids n y):Ids n (.agg [.sc (.int .i64 k),.sc (.string (ba t)),.sc (.int .i64 m),.sc (.int .i64 a),.slice .full 0 [],y]):=by
 rw[Z9];simp only[List.forall_mem_cons,YV,true_and];exact⟨zQ (.inr rfl) (fun x hx=>by cases hx),h,fun x hx=>by cases hx⟩
theorem kz{k a:Int}{t:Tx}{n x:Nd}:SVles [.sc (.int .i64 k),.sc (.string (ba t)),.sc (.int .i64 0),.sc (.int .i64 a),.slice .full 0 [],.slice .full 6 [.agg (zk n),zq x]] (zk (zr k a t [n,x])):=by
 refine .cons (SVle.refl _) (.cons (SVle.refl _) (.cons (SVle.refl _) (.cons (SVle.refl _) (.cons ?_ (.cons ?_ .nil)))))
 ·exact jl (na (l:=[]) (.inr rfl))
 ·refine fun st σ w v hv=>?_;have h1:=SVle.elems (m :=.full) (z:=6) (l:=[.agg (zk n),zq x]) (r:=[zq n,zq x]) (.cons (by rw[za];exact Yp _) (.cons (Yp _) .nil)) _ _ _ _ hv;exact jl (mE (m :=.full) (l:=[n,x]) (.inl rfl)) _ _ _ _ h1
theorem cQ(n:Nat)(a b:Nd):Ids n (.slice .imm 6 [.agg (zk a),zq b]) :=
 zQ (.inl rfl) fun x hx y hy=>by
  simp only[List.mem_cons,List.not_mem_nil,or_false] at hx;rcases hx with rfl | rfl
  ·have:=VI n a;rw[qR,Z9] at this;exact this y hy
  ·have:=VI n b;rw[qR,Z9] at this;rw[za] at hy;exact this y hy
theorem jn{T:List Tk}{pid:Nat}{p':PS}{k a:Int}{t:Tx}{n x:Nd}{st:St}{K:SV→St→Prop}(hk:K (zq (zr k a t [n,x])) (st.set pid (.cells (qz T p')))){ex:St} :
  YU st (jy K) (.agg [.sc (.int .i64 k),.sc (.string (ba t)),.sc (.int .i64 0),.sc (.int .i64 a),.slice .full 0 [],.slice .full 6 [.agg (zk n),zq x]]) (st.set pid (.cells (qz T p'))++ex):=by
 refine⟨_,ex,rfl,(Mod.refl _).set _ _ (Vt _ _ _),?_,_,?_,hk⟩
 ·show Ids _ (.agg [.sc (.int .i64 k),.sc (.string (ba t)),.sc (.int .i64 0),.sc (.int .i64 a),.slice .imm 0 [],.slice .imm 6 [.agg (zk n),zq x]]);rw[Z9];simp only[List.forall_mem_cons,YV,true_and];exact⟨zQ (.inl rfl) (fun x hx=>by cases hx),cQ _ n x,fun x hx=>by cases hx⟩
 ·show SVle (.agg [.sc (.int .i64 k),.sc (.string (ba t)),.sc (.int .i64 0),.sc (.int .i64 a),.slice .imm 0 [],.slice .imm 6 [.agg (zk n),zq x]]) _;exact SVle.agg (.cons (SVle.refl _) (.cons (SVle.refl _) (.cons (SVle.refl _) (.cons (SVle.refl _) (.cons (SVle.nil .imm 0 1 (.inr rfl)) (.cons (SVle.elems (.cons (by rw[za];exact Yp _) (.cons (Yp _) .nil))) .nil))))))
theorem Yn(n:Nat)(a b:Nd):Ids n (.slice .full 6 [.agg (zk a),zq b]) :=
 zQ (.inr rfl) fun x hx y hy=>by
  have h2:=zK n .full (.inr rfl) 6 [a,b];simp only[List.mem_cons,List.not_mem_nil,or_false] at hx;rcases hx with rfl | rfl
  ·have:=VI n a;rw[qR,Z9] at this;exact this y hy
  ·have:=VI n b;rw[qR,Z9] at this;rw[za] at hy;exact this y hy
end Go.AL
namespace Go.Proofs
open Go Go.AL Tryz
theorem oD{T:List Tk}(hT:T.length≤100000){pid:Nat}{part:PM Nd}(hpt:DC T pid 127 part):DC T pid 110 (EU T part [42] [47] [37]):=by
 intro p r p' h K st hp hk;refine zw (zl [] func110 rfl results110 ntmps110 ?_);unfold EU at h;simp only[xoB,xpX] at h;obtain⟨n0,p1,h1,hL⟩:=h;obtain⟨m0,t0,hm0,ht0,_⟩:=YF hL;simp only[go_sem];refine hpt _ _ _ h1 _ _ (zm hp) ?_;simp only[go_sem,zb hp];refine wZ ht0 (zj hp) ?_;simp only[go_sem,zb hp];refine VE [] (st.length+1) (fun m env s=>∃ (nd:Nd) (q:PS) (t:Tk) (ex:St),Wz T part [42] [47] [37] m nd q=some (r,p')∧zE T q=some t∧env=(.ptr pid 0 :: .any :: .ptr st.length 0 :: .ptr (st.length+1) 0 :: .sc (.string (ba (K4 t [42] [47] [37]))) :: .any :: .any :: .any::X3 []) ∧
  s=st.set pid (.cells (qz T q))++(.cells qu :: .cells (zk nd)::ex)) (n:=T.length+2) ?_ ⟨_,_,Za 1,Yp _,n0,_,t0,[],hL,ht0,rfl,by rw[Qu,za];rfl⟩ ?_
 ·exact qv
 rintro m env s ⟨nd,q,t,ex,hl,ht,rfl,rfl⟩;obtain⟨m,t',rfl,ht',hl⟩:=YF hl;rw[ht] at ht';cases ht';obtain⟨o,ho⟩:∃ o,K4 t [42] [47] [37]=o:=⟨_,rfl⟩;rw[ho] at hl;by_cases c0:o=[]
 ·have c1:(o==[])=true:=by simp[c0]
  rw[if_neg (by simp[c0])] at hl;cases hl;rw[ho];unfold zk qu;simp only[go_sem,Qy,YQ,List.toList_toArray,c1];exact Xf (m1 :=.imm) (m2 :=.imm) (z1:=1) (z2:=6) hk (.inl rfl) (.inl rfl)
 ·have c1:(o==[])=false:=by simp[c0]
  rw[if_pos c0] at hl;simp only[xoB,xpX] at hl;obtain⟨u,p2,h2,x,p3,h3,hl⟩:=hl;obtain⟨m1,t1,rfl,ht1,_⟩:=YF hl;rw[ho];unfold zk qu;simp only[go_sem,Qy,YQ,List.toList_toArray,c1];refine qH hT h2 (zj hp) ?_;simp only[go_sem,zb hp];refine zA [] [(0,[8]),(0,[8]),(0,[8]),(0,[8]),(0,[]),(3,[8]),(0,[]),(0,[]),(1,[9])] mixed rfl ?_;simp only[go_sem];refine⟨_,_,hpt _ _ _ h3 _ _ (zj hp) ⟨rfl,rfl⟩,?_⟩;simp only[go_sem,zb hp];rw[zp];refine⟨.slice .full 6 [.agg (zk nd),zq x],?_,?_⟩
  ·unfold zk;simp only[go_sem];exact⟨⟨[],by simp⟩,Yn _ nd x,.inl rfl⟩
  rw[zp];refine⟨.agg [.sc (.int .i64 13),.sc (.string (ba o)),.sc (.int .i64 0),.sc (.int .i64 nd.pos),.slice .full 0 [],.slice .full 6 [.agg (zk nd),zq x]],?_,?_⟩
  ·unfold zk;simp only[go_sem];exact⟨⟨[],by simp⟩,Uu (Yn _ nd x),.inl rfl⟩
  unfold zk;simp only[go_sem];refine wZ ht1 (zj hp) ?_;simp only[go_sem,zb hp];refine⟨_,_,Nat.lt_succ_self _,?_,_,_,Za 1,kz,zr 13 nd.pos o [nd,x],p3,t1,_,hl,ht1,rfl,rfl⟩;exact qv
theorem aY{T:List Tk}(hT:T.length≤100000){pid:Nat}{part:PM Nd}(hpt:DC T pid 110 part):DC T pid 85 (EU T part [43] [45] [94]):=by
 intro p r p' h K st hp hk;refine zw (zl [] func85 rfl results85 ntmps85 ?_);unfold EU at h;simp only[xoB,xpX] at h;obtain⟨n0,p1,h1,hL⟩:=h;obtain⟨m0,t0,hm0,ht0,_⟩:=YF hL;simp only[go_sem];refine hpt _ _ _ h1 _ _ (zm hp) ?_;simp only[go_sem,zb hp];refine wZ ht0 (zj hp) ?_;simp only[go_sem,zb hp];refine VE [] (st.length+1) (fun m env s=>∃ (nd:Nd) (q:PS) (t:Tk) (ex:St),Wz T part [43] [45] [94] m nd q=some (r,p')∧zE T q=some t∧env=(.ptr pid 0 :: .any :: .ptr st.length 0 :: .ptr (st.length+1) 0 :: .sc (.string (ba (K4 t [43] [45] [94]))) :: .any :: .any :: .any::X3 []) ∧
  s=st.set pid (.cells (qz T q))++(.cells qu :: .cells (zk nd)::ex)) (n:=T.length+2) ?_ ⟨_,_,Za 1,Yp _,n0,_,t0,[],hL,ht0,rfl,by rw[Qu,za];rfl⟩ ?_
 ·exact qv
 rintro m env s ⟨nd,q,t,ex,hl,ht,rfl,rfl⟩;obtain⟨m,t',rfl,ht',hl⟩:=YF hl;rw[ht] at ht';cases ht';obtain⟨o,ho⟩:∃ o,K4 t [43] [45] [94]=o:=⟨_,rfl⟩;rw[ho] at hl;by_cases c0:o=[]
 ·have c1:(o==[])=true:=by simp[c0]
  rw[if_neg (by simp[c0])] at hl;cases hl;rw[ho];unfold zk qu;simp only[go_sem,Qy,YQ,List.toList_toArray,c1];exact Xf (m1 :=.imm) (m2 :=.imm) (z1:=1) (z2:=6) hk (.inl rfl) (.inl rfl)
 ·have c1:(o==[])=false:=by simp[c0]
  rw[if_pos c0] at hl;simp only[xoB,xpX] at hl;obtain⟨u,p2,h2,x,p3,h3,hl⟩:=hl;obtain⟨m1,t1,rfl,ht1,_⟩:=YF hl;rw[ho];unfold zk qu;simp only[go_sem,Qy,YQ,List.toList_toArray,c1];refine qH hT h2 (zj hp) ?_;simp only[go_sem,zb hp];refine zA [] [(0,[8]),(0,[8]),(0,[8]),(0,[8]),(0,[]),(3,[8]),(0,[]),(0,[]),(1,[9])] mixed rfl ?_;simp only[go_sem];refine⟨_,_,hpt _ _ _ h3 _ _ (zj hp) ⟨rfl,rfl⟩,?_⟩;simp only[go_sem,zb hp];rw[zp];refine⟨.slice .full 6 [.agg (zk nd),zq x],?_,?_⟩
  ·unfold zk;simp only[go_sem];exact⟨⟨[],by simp⟩,Yn _ nd x,.inl rfl⟩
  rw[zp];refine⟨.agg [.sc (.int .i64 13),.sc (.string (ba o)),.sc (.int .i64 0),.sc (.int .i64 nd.pos),.slice .full 0 [],.slice .full 6 [.agg (zk nd),zq x]],?_,?_⟩
  ·unfold zk;simp only[go_sem];exact⟨⟨[],by simp⟩,Uu (Yn _ nd x),.inl rfl⟩
  unfold zk;simp only[go_sem];refine wZ ht1 (zj hp) ?_;simp only[go_sem,zb hp];refine⟨_,_,Nat.lt_succ_self _,?_,_,_,Za 1,kz,zr 13 nd.pos o [nd,x],p3,t1,_,hl,ht1,rfl,rfl⟩;exact qv
theorem rR{T:List Tk}(hT:T.length≤100000){pid:Nat}{e pt:PM Nd}(hs:DC T pid 85 (oa T e pt)):DC T pid 60 (GL T e pt):=by
 intro p r p' h K st hp hk;refine zw (zl [] func60 rfl results60 ntmps60 ?_);unfold GL at h;simp only[xoB,xpX] at h;obtain⟨nd,p1,h1,t,ht,h⟩:=h;obtain⟨o,ho⟩:∃ o,K4 t [61] [60] [61]=o:=⟨_,rfl⟩;rw[ho] at h;by_cases c0:o=[]
 ·have c1:(o==[])=true:=by simp[c0]
  rw[if_neg (by simp[c0])] at h;cases h;simp only[go_sem];refine hs _ _ _ h1 _ _ (zm hp) ?_;simp only[go_sem,zb hp];refine YN ht ho (zj hp) ?_;simp only[go_sem,zb hp,Qy,YQ,List.toList_toArray,c1];exact QA hk
 ·have c1:(o==[])=false:=by simp[c0]
  rw[if_pos c0] at h;simp only[xoB,xoM,xpX,xpJ] at h;obtain⟨u,p2,h2,x,p3,h3,rfl,rfl⟩:=h;simp only[go_sem];refine hs _ _ _ h1 _ _ (zm hp) ?_;simp only[go_sem,zb hp];refine YN ht ho (zj hp) ?_;simp only[go_sem,zb hp,Qy,YQ,List.toList_toArray,c1];try (unfold zd;simp only[qc])
  refine qH hT h2 (zj hp) ?_;simp only[go_sem,zb hp];refine zA [] [(0,[8]),(0,[8]),(0,[8]),(0,[8]),(0,[]),(3,[8]),(0,[]),(0,[]),(1,[9])] mixed rfl ?_;simp only[go_sem,za];refine⟨_,_,hs _ _ _ h3 _ _ (zj hp) ⟨rfl,rfl⟩,?_⟩;simp only[go_sem,zb hp];rw[zp];refine⟨.slice .full 6 [.agg (zk nd),zq x],?_,?_⟩
  ·unfold zk;simp only[go_sem];exact⟨⟨[],by simp⟩,Yn _ nd x,.inl rfl⟩
  rw[zp];refine⟨.agg [.sc (.int .i64 13),.sc (.string (ba o)),.sc (.int .i64 0),.sc (.int .i64 nd.pos),.slice .full 0 [],.slice .full 6 [.agg (zk nd),zq x]],?_,?_⟩
  ·unfold zk;simp only[go_sem];exact⟨⟨[],by simp⟩,Uu (Yn _ nd x),.inl rfl⟩
  unfold zk;simp only[go_sem];exact jn hk
end Go.Proofs
