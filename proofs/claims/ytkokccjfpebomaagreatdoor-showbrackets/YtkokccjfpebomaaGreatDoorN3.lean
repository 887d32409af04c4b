/- The document's parser: tyapp, con. -/
import Derived.Test.YtkokccjfpebomaaGreatDoorN2
import Derived.Test.YtkokccjfpebomaaGreatDoorA9
set_option maxHeartbeats 4000000
set_option linter.unusedSimpArgs false
set_option linter.unusedVariables false
set_option maxRecDepth 8000
namespace Go.AL
theorem mf {T:List Tk} {p q:PS} {t u:Tk} (h:zR T p=some t) {k:Int} (hk:t.kind=k) (hs:ZA T p=some (u,q)) (h0:k≠0:=by decide):u=t:=by
 unfold ZA at hs
 rw[h] at hs
 simp only[Option.map_some,Option.some.injEq] at hs
 rw[if_neg (by omega)] at hs
 cases hs;rfl
end Go.AL
namespace Go.Proofs
open Go Go.AL Tryz
theorem tb {T:List Tk} (hT:T.length≤100000) {pid:Nat} {I:PM Nd} (hI:∀ p r q,I p=some (r,q)→∃ ty,DC T pid 59 ty∧sO T ty p=some (r,q)):DC T pid 59 (Yt T I):=by
 intro p r p' h K st hp hk
 refine zM (zE [] func59 rfl results59 ntmps59 ?_)
 obtain⟨hd,h⟩:=HM h
 rcases h with⟨h1,rfl⟩ | ⟨q1,h1,h2,h3,h4,rfl⟩
 ·simp only[go_sem]
  refine J3 hd h1 (zF hp) ?_
  simp only[go_sem,zb hp]
  exact Q8 (m1 :=.full) (m2 :=.full) (z1:=0) (z2:=0) (nd:=J9) hk (.inr rfl) (.inr rfl)
 obtain⟨ty,hty,hb⟩:=hI _ _ _ h2
 unfold sO at hb
 simp only[Option.bind_eq_some_iff,Prod.exists] at hb
 obtain⟨a0,ha0,x0,p1,h5,hL⟩:=hb
 have y1:=zV (X7 (p':=q1) hp)
 unfold qN at y1
 have hw2:IntKind.i64.wrap ((q1.deep:Int)-1)=((q1.deep-1:Nat):Int):=by rw[IntWalk.i64_in _ (by omega)];omega
 simp only[go_sem]
 refine J3 hd h1 (zF hp) ?_
 simp only[go_sem,zb hp]
 refine uf ha0 (zA hp) ?_
 simp only[go_sem,zb hp]
 refine JF hT (by decide) h5 (zA hp) ?_
 simp only[go_sem,zb hp]
 refine Z1 (st.length+1) 5 6 0 (Zg 1) (by simp) rfl ?_
 rw[QA]
 simp only[List.length_append,Xn,List.length_cons,List.length_nil,List.set_cons_succ,List.set_cons_zero,List.append_assoc,List.cons_append,List.nil_append,Nat.zero_add,Nat.reduceAdd]
 refine Vb [] (st.length+1) (fun m env s=>∃ (nd:Nd) (q:PS) (k:Nat) (ex:St),LM T ty m nd q=some (r,q1)∧m+nd.kids.length≤T.length+2∧nd.names=[]∧env=[.ptr pid 0,.any,.ptr st.length 0,.any,.ptr (st.length+1) 0,.any,.any,.any,.any,.any,.any,.any,.any,.any,.any,.any,.any,.any,.any,.any,.any,.any,.any,.any,.any,.any,.any,.any,.any,.any,.any,.any,.any,.any,.any,.any,.any,.any,.any,.any,.any,.any,.any,.any,.any,.any,.any,.any,.any,.any,.any,.any,.any,.any,.any,.any,.any,.any,.any,.any,.any] ∧
  s=st.set pid (.cells (qN T q))++(.cells qK :: .cells (qw (st.length+2) k nd) :: .tok k::ex)) (n:=T.length+2) ?_ ⟨_,_,Zg 1,X' _,zT 27 a0 x0 [],_,0,[],hL,by simp[zT,Nd.kids],rfl,rfl,by rw[QA];rfl⟩ ?_
 ·repeat (first | exact zj | refine zk _ ?_ | refine zg _ ?_ | refine zf _ ?_)
 rintro m env s ⟨nd,q,k,ex,hl,hm,hnm,rfl,rfl⟩
 cases m with
 | zero=>cases hl
 | succ m =>
 unfold LM at hl
 have y:=zV (X7 (p':=q) hp)
 unfold qN at y
 by_cases c0:q.e=0
 rotate_left
 ·have c1:(q.e==0)=false:=by simp[c0]
  rw[if_neg c0] at hl
  cases hl
  unfold qw qK qN
  simp only[go_sem,y.1,y.2.1,y.2.2,c1,hw2,zb hp]
  exact Qx (p':={ q1 with deep:=q1.deep-1 }) hk hnm
 have c1:(q.e==0)=true:=by simp[c0]
 rw[if_pos c0,Option.bind_eq_some_iff] at hl
 obtain⟨t,ht,hl⟩:=hl
 by_cases c3:t.kind=3
 ·have d3:(t.kind==3)=true:=by simp[c3]
  rw[if_pos c3,Option.bind_eq_some_iff] at hl
  obtain⟨⟨u,p2⟩,h6,hl⟩:=hl
  unfold qw qK qN
  simp only[go_sem,y.1,y.2.1,y.2.2,c1,zb hp]
  refine qr ht (zA hp) ?_
  simp only[go_sem,d3]
  refine qS hT h6 (zA hp) ?_
  simp only[go_sem,zb hp]
  have e6:=mf ht c3 h6
  subst e6
  refine⟨Tryz.app6d (by omega),m,_,by omega,?_,_,qw (st.length+2) (k+1) (nd.addKid (zT 27 u.pos u.text [])),Zg 1,?_,nd.addKid (zT 27 u.pos u.text []),p2,k+1,_,hl,by rw[qc];simp;omega,by rw[qs];exact hnm,rfl,rfl⟩
  ·repeat (first | exact zj | refine zk _ ?_ | refine zg _ ?_ | refine zf _ ?_)
  ·rw[Fh]
   exact .cons (SVle.refl _) (.cons (SVle.refl _) (.cons (SVle.refl _) (.cons (SVle.refl _) (.cons (SVle.refl _) (.cons (SVle.elems (LeE.append (LeE.refl _) (.cons (.cons (SVle.refl _) (.cons (SVle.refl _) (.cons (SVle.refl _) (.cons (SVle.refl _) (.cons (SVle.nil .imm 0 1 (.inr rfl)) (.cons (SVle.nil .imm 0 6 (.inr rfl)) .nil)))))) .nil))) .nil)))))
 ·have d3:(t.kind==3)=false:=by simp[c3]
  rw[if_neg c3] at hl
  cases b1:isT t [40] with
  | false =>
   rw[if_neg (by rw[b1];decide)] at hl
   cases hl
   unfold qw qK qN
   simp only[go_sem,y.1,y.2.1,y.2.2,c1,zb hp]
   refine qr ht (zA hp) ?_
   simp only[go_sem,d3]
   refine qx ht b1 (zA hp) ?_
   simp only[go_sem,y.1,y.2.1,y.2.2,c1,hw2,zb hp]
   exact Qx (p':={ q1 with deep:=q1.deep-1 }) hk hnm
  | true =>
   rw[if_pos b1] at hl
   simp only[Option.bind_eq_some_iff,Prod.exists] at hl
   obtain⟨u,p2,h6,x,p3,h7,p4,h8,hl⟩:=hl
   unfold qw qK qN
   simp only[go_sem,y.1,y.2.1,y.2.2,c1,zb hp]
   refine qr ht (zA hp) ?_
   simp only[go_sem,d3]
   refine qx ht b1 (zA hp) ?_
   simp only[go_sem]
   refine qS hT h6 (zA hp) ?_
   simp only[go_sem,zb hp]
   refine zP [] [(0,[5]),(0,[5]),(0,[]),(3,[5]),(0,[]),(3,[7]),(0,[]),(1,[8])] mixed rfl ?_
   simp only[go_sem,zy,zu,zw,zt,zr,zG,zH,zx,zh]
   refine⟨_,_,hty _ _ _ h7 _ _ (zA hp) ⟨rfl,rfl⟩,?_⟩
   simp only[go_sem,zy,zu,zw,zt,zr,zG,zH,zx,zh,zb hp]
   rw[zL]
   refine⟨.slice .full 6 [zJ x],?_,?_⟩
   ·simp only[go_sem]
    exact⟨⟨[],by simp⟩,qb _ _ (.inr rfl) _ [_],.inl rfl⟩
   simp only[go_sem,zy,zu,zw,zt,zr,zG,zH,zx,zh]
   refine⟨_,_,⟨Tryz.app6d (by omega),rfl,rfl⟩,?_⟩
   simp only[go_sem]
   first | (unfold zl;simp only[ze,zc,zq,List.set_cons_succ,List.set_cons_zero,List.getD_cons_succ,List.getD_cons_zero]) | skip
   refine Zd hT h8 (zA hp) fun _=>?_
   simp only[go_sem,zb hp]
   refine⟨m,_,by omega,?_,_,qw (st.length+2) (k+1) (nd.addKid x),Zg 1,by rw[Fh];exact X' _,nd.addKid x,p4,k+1,_,hl,by rw[qc];simp;omega,by rw[qs];exact hnm,rfl,rfl⟩
   repeat (first | exact zj | refine zk _ ?_ | refine zg _ ?_ | refine zf _ ?_)
theorem fF {T:List Tk} (hT:T.length≤100000) {pid:Nat} {ty:PM Nd} (hty:DC T pid 59 ty):DC T pid 36 (wk T ty):=by
 intro p r p' h K st hp hk
 refine zM (zE [] func36 rfl results36 ntmps36 ?_)
 unfold wk at h
 simp only[Option.bind_eq_some_iff,Prod.exists] at h
 obtain⟨a0,ha0,x0,p1,h5,b0,h6,hL⟩:=h
 simp only[go_sem]
 refine uf ha0 (zF hp) ?_
 simp only[go_sem,zb hp]
 refine JF hT (by decide) h5 (zF hp) ?_
 simp only[go_sem,zb hp]
 refine Q2 h6 (zA hp) ?_
 simp only[go_sem,zb hp]
 refine Z1 (st.length+1) 5 6 0 (Zg 1) (by simp) rfl ?_
 rw[QA]
 simp only[List.length_append,Xn,List.length_cons,List.length_nil,List.set_cons_succ,List.set_cons_zero,List.append_assoc,List.cons_append,List.nil_append,Nat.zero_add,Nat.reduceAdd]
 refine zN [] (fun m env s=>∃ (nd:Nd) (q:PS) (k:Nat) (more:Bool) (ex:St),BL T ty m more nd q=some (r,p')∧m+nd.kids.length≤T.length+2∧nd.names=[]∧env=[.ptr pid 0,.any,.ptr st.length 0,.ptr (st.length+1) 0,.sc (.bool more),.any,.any,.any,.any,.any,.any,.any,.any,.any,.any,.any,.any,.any,.any,.any,.any,.any,.any,.any,.any,.any,.any,.any,.any,.any,.any,.any,.any,.any,.any,.any,.any,.any,.any] ∧
  s=st.set pid (.cells (qN T q))++(.cells qK :: .cells (qw (st.length+2) k nd) :: .tok k::ex)) (n:=T.length+2) ?_ ⟨_,_,0,_,[],hL,by simp[zT,Nd.kids],rfl,rfl,rfl⟩ ?_
 ·repeat (first | exact zj | refine zk _ ?_ | refine zg _ ?_ | refine zf _ ?_)
 rintro m env s ⟨nd,q,k,more,ex,hl,hm,hnm,rfl,rfl⟩
 cases m with
 | zero=>cases hl
 | succ m =>
 unfold BL at hl
 have y:=zV (X7 (p':=q) hp)
 unfold qN at y
 cases more with
 | false =>
  rw[if_neg (by simp)] at hl
  cases hl
  unfold qw qK
  simp only[go_sem]
  exact Qx hk hnm
 | true =>
  by_cases c0:q.e=0
  rotate_left
  ·have c1:(q.e==0)=false:=by simp[c0]
   rw[if_neg (by simp[c0])] at hl
   cases hl
   unfold qw qK qN
   simp only[go_sem,y.1,y.2.1,y.2.2,c1,zb hp]
   exact Qx hk hnm
  have c1:(q.e==0)=true:=by simp[c0]
  rw[if_pos ⟨rfl,c0⟩] at hl
  simp only[Option.bind_eq_some_iff,Prod.exists] at hl
  obtain⟨u,p2,h7,p3,h8,x,p4,h9,b2,h10,hl⟩:=hl
  unfold qw qK qN
  by_cases c4:nd.kids.length=4
  ·have l1:((nd.kids.length:Int)==4)=true:=by simp[c4]
   unfold U1 at h8
   rw[if_pos c4] at h8
   simp only[go_sem,y.1,y.2.1,y.2.2,c1,zb hp]
   refine qS hT h7 (zA hp) ?_
   simp only[go_sem,zb hp,List.length_map,l1]
   refine Qg h8 (zA hp) fun _=>?_
   simp only[go_sem,zb hp]
   refine zP [] [(0,[5]),(0,[5]),(0,[]),(3,[5]),(0,[]),(3,[7]),(0,[]),(1,[8])] mixed rfl ?_
   simp only[go_sem,zy,zu,zw,zt,zr,zG,zH,zx,zh]
   refine⟨_,_,hty _ _ _ h9 _ _ (zA hp) ⟨rfl,rfl⟩,?_⟩
   simp only[go_sem,zy,zu,zw,zt,zr,zG,zH,zx,zh,zb hp]
   rw[zL]
   refine⟨.slice .full 6 [zJ x],?_,?_⟩
   ·simp only[go_sem]
    exact⟨⟨[],by simp⟩,qb _ _ (.inr rfl) _ [_],.inl rfl⟩
   simp only[go_sem,zy,zu,zw,zt,zr,zG,zH,zx,zh]
   refine⟨_,_,⟨Tryz.app6d (by omega),rfl,rfl⟩,?_⟩
   simp only[go_sem]
   first | (unfold zl;simp only[ze,zc,zq,List.set_cons_succ,List.set_cons_zero,List.getD_cons_succ,List.getD_cons_zero]) | skip
   refine Q2 h10 (zA hp) ?_
   simp only[go_sem,zb hp]
   refine⟨m,_,by omega,?_,nd.addKid x,p4,k+1,b2,_,hl,by rw[qc];simp;omega,by rw[qs];exact hnm,rfl,by rw[qV,qU,Zq,Zp,qc,List.map_append];rfl⟩
   repeat (first | exact zj | refine zk _ ?_ | refine zg _ ?_ | refine zf _ ?_)
  ·have l1:((nd.kids.length:Int)==4)=false:=by simp;omega
   unfold U1 at h8
   rw[if_neg c4] at h8
   cases h8
   simp only[go_sem,y.1,y.2.1,y.2.2,c1,zb hp]
   refine qS hT h7 (zA hp) ?_
   simp only[go_sem,zb hp,List.length_map,l1]
   refine zP [] [(0,[5]),(0,[5]),(0,[]),(3,[5]),(0,[]),(3,[7]),(0,[]),(1,[8])] mixed rfl ?_
   simp only[go_sem,zy,zu,zw,zt,zr,zG,zH,zx,zh]
   refine⟨_,_,hty _ _ _ h9 _ _ (zA hp) ⟨rfl,rfl⟩,?_⟩
   simp only[go_sem,zy,zu,zw,zt,zr,zG,zH,zx,zh,zb hp]
   rw[zL]
   refine⟨.slice .full 6 [zJ x],?_,?_⟩
   ·simp only[go_sem]
    exact⟨⟨[],by simp⟩,qb _ _ (.inr rfl) _ [_],.inl rfl⟩
   simp only[go_sem,zy,zu,zw,zt,zr,zG,zH,zx,zh]
   refine⟨_,_,⟨Tryz.app6d (by omega),rfl,rfl⟩,?_⟩
   simp only[go_sem]
   first | (unfold zl;simp only[ze,zc,zq,List.set_cons_succ,List.set_cons_zero,List.getD_cons_succ,List.getD_cons_zero]) | skip
   refine Q2 h10 (zA hp) ?_
   simp only[go_sem,zb hp]
   refine⟨m,_,by omega,?_,nd.addKid x,p4,k+1,b2,_,hl,by rw[qc];simp;omega,by rw[qs];exact hnm,rfl,by rw[qV,qU,Zq,Zp,qc,List.map_append];rfl⟩
   repeat (first | exact zj | refine zk _ ?_ | refine zg _ ?_ | refine zf _ ?_)
end Go.Proofs
namespace Go.AL
theorem Yr {T:List Tk} {part:PM Nd} {a b c:Tx} {n:Nat} {nd r:Nd} {p q:PS} (h:V5 T part a b c n nd p=some (r,q)):∃ m t,n=m+1∧zR T p=some t ∧
  (if Ky t a b c≠[] then (ZA T p).bind fun r=>(part r.2).bind fun q=>V5 T part a b c m (zT 13 nd.pos (Ky t a b c) [nd,q.1]) q.2 else some (nd,p))=some (r,q):=by
 cases n with
 | zero=>cases h
 | succ m =>
  unfold V5 at h
  rw[Option.bind_eq_some_iff] at h
  obtain⟨t,h1,h2⟩:=h
  exact⟨m,t,rfl,h1,h2⟩
theorem jx {x y:SV} (h:SVle (norm1 x) y):SVle x y:=fun st σ w v hr=>h st σ w v hr.norm1
theorem KX {n:Nat} {k a m:Int} {t:Tx} {y:SV} (h:Ids n y):Ids n (.agg [.sc (.int .i64 k),.sc (.string (ba t)),.sc (.int .i64 m),.sc (.int .i64 a),.slice .full 0 [],y]):=by
 rw[Z6]
 simp only[List.forall_mem_cons,YH,true_and]
 exact⟨ql (.inr rfl) (fun x hx=>by cases hx),h,fun x hx=>by cases hx⟩
theorem kU {k a:Int} {t:Tx} {n x:Nd}:SVles [.sc (.int .i64 k),.sc (.string (ba t)),.sc (.int .i64 0),.sc (.int .i64 a),.slice .full 0 [],.slice .full 6 [.agg (zD n),zJ x]] (zD (zT k a t [n,x])):=by
 refine .cons (SVle.refl _) (.cons (SVle.refl _) (.cons (SVle.refl _) (.cons (SVle.refl _) (.cons ?_ (.cons ?_ .nil)))))
 ·exact jx (hZ (l:=[]) (.inr rfl))
 ·refine fun st σ w v hv=>?_
  have h1:=SVle.elems (m :=.full) (z:=6) (l:=[.agg (zD n),zJ x]) (r:=[zJ n,zJ x]) (.cons (by rw[zd];exact X' _) (.cons (X' _) .nil)) _ _ _ _ hv
  exact jx (ph (m :=.full) (l:=[n,x]) (.inl rfl)) _ _ _ _ h1
theorem pN (n:Nat) (a b:Nd):Ids n (.slice .imm 6 [.agg (zD a),zJ b]) :=
 ql (.inl rfl) fun x hx y hy=>by
  simp only[List.mem_cons,List.not_mem_nil,or_false] at hx
  rcases hx with rfl | rfl
  ·have:=Vp n a
   rw[Zz,Z6] at this
   exact this y hy
  ·have:=Vp n b
   rw[Zz,Z6] at this
   rw[zd] at hy
   exact this y hy
theorem jq {T:List Tk} {pid:Nat} {p':PS} {k a:Int} {t:Tx} {n x:Nd} {st:St} {K:SV→St→Prop} (hk:K (zJ (zT k a t [n,x])) (st.set pid (.cells (qN T p')))) {ex:St} :
  Yv st (wa K) (.agg [.sc (.int .i64 k),.sc (.string (ba t)),.sc (.int .i64 0),.sc (.int .i64 a),.slice .full 0 [],.slice .full 6 [.agg (zD n),zJ x]]) (st.set pid (.cells (qN T p'))++ex):=by
 refine⟨_,ex,rfl,(Mod.refl _).set _ _ (Vk _ _ _),?_,_,?_,hk⟩
 ·show Ids _ (.agg [.sc (.int .i64 k),.sc (.string (ba t)),.sc (.int .i64 0),.sc (.int .i64 a),.slice .imm 0 [],.slice .imm 6 [.agg (zD n),zJ x]])
  rw[Z6]
  simp only[List.forall_mem_cons,YH,true_and]
  exact⟨ql (.inl rfl) (fun x hx=>by cases hx),pN _ n x,fun x hx=>by cases hx⟩
 ·show SVle (.agg [.sc (.int .i64 k),.sc (.string (ba t)),.sc (.int .i64 0),.sc (.int .i64 a),.slice .imm 0 [],.slice .imm 6 [.agg (zD n),zJ x]]) _
  exact SVle.agg (.cons (SVle.refl _) (.cons (SVle.refl _) (.cons (SVle.refl _) (.cons (SVle.refl _) (.cons (SVle.nil .imm 0 1 (.inr rfl)) (.cons (SVle.elems (.cons (by rw[zd];exact X' _) (.cons (X' _) .nil))) .nil))))))
theorem X5 (n:Nat) (a b:Nd):Ids n (.slice .full 6 [.agg (zD a),zJ b]) :=
 ql (.inr rfl) fun x hx y hy=>by
  have h2:=qb n .full (.inr rfl) 6 [a,b]
  simp only[List.mem_cons,List.not_mem_nil,or_false] at hx
  rcases hx with rfl | rfl
  ·have:=Vp n a
   rw[Zz,Z6] at this
   exact this y hy
  ·have:=Vp n b
   rw[Zz,Z6] at this
   rw[zd] at hy
   exact this y hy
end Go.AL
namespace Go.Proofs
open Go Go.AL Tryz
theorem dX {T:List Tk} (hT:T.length≤100000) {pid:Nat} {part:PM Nd} (hpt:DC T pid 127 part):DC T pid 110 (H' T part [42] [47] [37]):=by
 intro p r p' h K st hp hk
 refine zM (zE [] func110 rfl results110 ntmps110 ?_)
 unfold H' at h
 simp only[Option.bind_eq_some_iff,Prod.exists] at h
 obtain⟨n0,p1,h1,hL⟩:=h
 obtain⟨m0,t0,hm0,ht0,_⟩:=Yr hL
 simp only[go_sem]
 refine hpt _ _ _ h1 _ _ (zF hp) ?_
 simp only[go_sem,zb hp]
 refine jy ht0 (zA hp) ?_
 simp only[go_sem,zb hp]
 refine Vb [] (st.length+1) (fun m env s=>∃ (nd:Nd) (q:PS) (t:Tk) (ex:St),V5 T part [42] [47] [37] m nd q=some (r,p')∧zR T q=some t∧env=[.ptr pid 0,.any,.ptr st.length 0,.ptr (st.length+1) 0,.sc (.string (ba (Ky t [42] [47] [37]))),.any,.any,.any,.any,.any,.any,.any,.any,.any,.any,.any,.any,.any,.any,.any,.any,.any,.any,.any] ∧
  s=st.set pid (.cells (qN T q))++(.cells qK :: .cells (zD nd)::ex)) (n:=T.length+2) ?_ ⟨_,_,Zg 1,X' _,n0,_,t0,[],hL,ht0,rfl,by rw[QA,zd];rfl⟩ ?_
 ·repeat (first | exact zj | refine zk _ ?_ | refine zg _ ?_ | refine zf _ ?_)
 rintro m env s ⟨nd,q,t,ex,hl,ht,rfl,rfl⟩
 obtain⟨m,t',rfl,ht',hl⟩:=Yr hl
 rw[ht] at ht';cases ht'
 obtain⟨o,ho⟩:∃ o,Ky t [42] [47] [37]=o:=⟨_,rfl⟩
 rw[ho] at hl
 by_cases c0:o=[]
 ·have c1:(o==[])=true:=by simp[c0]
  rw[if_neg (by simp[c0])] at hl
  cases hl
  rw[ho]
  unfold zD qK
  simp only[go_sem,Zm,YF,List.toList_toArray,c1]
  exact Q8 (m1 :=.imm) (m2 :=.imm) (z1:=1) (z2:=6) hk (.inl rfl) (.inl rfl)
 ·have c1:(o==[])=false:=by simp[c0]
  rw[if_pos c0] at hl
  simp only[Option.bind_eq_some_iff,Prod.exists] at hl
  obtain⟨u,p2,h2,x,p3,h3,hl⟩:=hl
  obtain⟨m1,t1,rfl,ht1,_⟩:=Yr hl
  rw[ho]
  unfold zD qK
  simp only[go_sem,Zm,YF,List.toList_toArray,c1]
  refine qS hT h2 (zA hp) ?_
  simp only[go_sem,zb hp]
  refine zP [] [(0,[8]),(0,[8]),(0,[8]),(0,[8]),(0,[]),(3,[8]),(0,[]),(0,[]),(1,[9])] mixed rfl ?_
  simp only[go_sem,zy,zu,zw,zt,zr,zG,zH,zx,zh]
  refine⟨_,_,hpt _ _ _ h3 _ _ (zA hp) ⟨rfl,rfl⟩,?_⟩
  simp only[go_sem,zy,zu,zw,zt,zr,zG,zH,zx,zh,zb hp]
  rw[zL]
  refine⟨.slice .full 6 [.agg (zD nd),zJ x],?_,?_⟩
  ·unfold zD
   simp only[go_sem]
   exact⟨⟨[],by simp⟩,X5 _ nd x,.inl rfl⟩
  rw[zL]
  refine⟨.agg [.sc (.int .i64 13),.sc (.string (ba o)),.sc (.int .i64 0),.sc (.int .i64 nd.pos),.slice .full 0 [],.slice .full 6 [.agg (zD nd),zJ x]],?_,?_⟩
  ·unfold zD
   simp only[go_sem]
   exact⟨⟨[],by simp⟩,KX (X5 _ nd x),.inl rfl⟩
  unfold zD
  simp only[go_sem,zy,zu,zw,zt,zr,zG,zH,zx,zh]
  refine jy ht1 (zA hp) ?_
  simp only[go_sem,zb hp]
  refine⟨_,_,Nat.lt_succ_self _,?_,_,_,Zg 1,kU,zT 13 nd.pos o [nd,x],p3,t1,_,hl,ht1,rfl,rfl⟩
  repeat (first | exact zj | refine zk _ ?_ | refine zg _ ?_ | refine zf _ ?_)
theorem fU {T:List Tk} (hT:T.length≤100000) {pid:Nat} {part:PM Nd} (hpt:DC T pid 110 part):DC T pid 85 (H' T part [43] [45] [94]):=by
 intro p r p' h K st hp hk
 refine zM (zE [] func85 rfl results85 ntmps85 ?_)
 unfold H' at h
 simp only[Option.bind_eq_some_iff,Prod.exists] at h
 obtain⟨n0,p1,h1,hL⟩:=h
 obtain⟨m0,t0,hm0,ht0,_⟩:=Yr hL
 simp only[go_sem]
 refine hpt _ _ _ h1 _ _ (zF hp) ?_
 simp only[go_sem,zb hp]
 refine jy ht0 (zA hp) ?_
 simp only[go_sem,zb hp]
 refine Vb [] (st.length+1) (fun m env s=>∃ (nd:Nd) (q:PS) (t:Tk) (ex:St),V5 T part [43] [45] [94] m nd q=some (r,p')∧zR T q=some t∧env=[.ptr pid 0,.any,.ptr st.length 0,.ptr (st.length+1) 0,.sc (.string (ba (Ky t [43] [45] [94]))),.any,.any,.any,.any,.any,.any,.any,.any,.any,.any,.any,.any,.any,.any,.any,.any,.any,.any,.any] ∧
  s=st.set pid (.cells (qN T q))++(.cells qK :: .cells (zD nd)::ex)) (n:=T.length+2) ?_ ⟨_,_,Zg 1,X' _,n0,_,t0,[],hL,ht0,rfl,by rw[QA,zd];rfl⟩ ?_
 ·repeat (first | exact zj | refine zk _ ?_ | refine zg _ ?_ | refine zf _ ?_)
 rintro m env s ⟨nd,q,t,ex,hl,ht,rfl,rfl⟩
 obtain⟨m,t',rfl,ht',hl⟩:=Yr hl
 rw[ht] at ht';cases ht'
 obtain⟨o,ho⟩:∃ o,Ky t [43] [45] [94]=o:=⟨_,rfl⟩
 rw[ho] at hl
 by_cases c0:o=[]
 ·have c1:(o==[])=true:=by simp[c0]
  rw[if_neg (by simp[c0])] at hl
  cases hl
  rw[ho]
  unfold zD qK
  simp only[go_sem,Zm,YF,List.toList_toArray,c1]
  exact Q8 (m1 :=.imm) (m2 :=.imm) (z1:=1) (z2:=6) hk (.inl rfl) (.inl rfl)
 ·have c1:(o==[])=false:=by simp[c0]
  rw[if_pos c0] at hl
  simp only[Option.bind_eq_some_iff,Prod.exists] at hl
  obtain⟨u,p2,h2,x,p3,h3,hl⟩:=hl
  obtain⟨m1,t1,rfl,ht1,_⟩:=Yr hl
  rw[ho]
  unfold zD qK
  simp only[go_sem,Zm,YF,List.toList_toArray,c1]
  refine qS hT h2 (zA hp) ?_
  simp only[go_sem,zb hp]
  refine zP [] [(0,[8]),(0,[8]),(0,[8]),(0,[8]),(0,[]),(3,[8]),(0,[]),(0,[]),(1,[9])] mixed rfl ?_
  simp only[go_sem,zy,zu,zw,zt,zr,zG,zH,zx,zh]
  refine⟨_,_,hpt _ _ _ h3 _ _ (zA hp) ⟨rfl,rfl⟩,?_⟩
  simp only[go_sem,zy,zu,zw,zt,zr,zG,zH,zx,zh,zb hp]
  rw[zL]
  refine⟨.slice .full 6 [.agg (zD nd),zJ x],?_,?_⟩
  ·unfold zD
   simp only[go_sem]
   exact⟨⟨[],by simp⟩,X5 _ nd x,.inl rfl⟩
  rw[zL]
  refine⟨.agg [.sc (.int .i64 13),.sc (.string (ba o)),.sc (.int .i64 0),.sc (.int .i64 nd.pos),.slice .full 0 [],.slice .full 6 [.agg (zD nd),zJ x]],?_,?_⟩
  ·unfold zD
   simp only[go_sem]
   exact⟨⟨[],by simp⟩,KX (X5 _ nd x),.inl rfl⟩
  unfold zD
  simp only[go_sem,zy,zu,zw,zt,zr,zG,zH,zx,zh]
  refine jy ht1 (zA hp) ?_
  simp only[go_sem,zb hp]
  refine⟨_,_,Nat.lt_succ_self _,?_,_,_,Zg 1,kU,zT 13 nd.pos o [nd,x],p3,t1,_,hl,ht1,rfl,rfl⟩
  repeat (first | exact zj | refine zk _ ?_ | refine zg _ ?_ | refine zf _ ?_)
theorem oP {T:List Tk} (hT:T.length≤100000) {pid:Nat} {e pt:PM Nd} (hs:DC T pid 85 (dR T e pt)):DC T pid 60 (DD T e pt):=by
 intro p r p' h K st hp hk
 refine zM (zE [] func60 rfl results60 ntmps60 ?_)
 unfold DD at h
 simp only[Option.bind_eq_some_iff,Prod.exists] at h
 obtain⟨nd,p1,h1,t,ht,h⟩:=h
 obtain⟨o,ho⟩:∃ o,Ky t [61] [60] [61]=o:=⟨_,rfl⟩
 rw[ho] at h
 by_cases c0:o=[]
 ·have c1:(o==[])=true:=by simp[c0]
  rw[if_neg (by simp[c0])] at h
  cases h
  simp only[go_sem]
  refine hs _ _ _ h1 _ _ (zF hp) ?_
  simp only[go_sem,zb hp]
  refine YL ht ho (zA hp) ?_
  simp only[go_sem,zb hp,Zm,YF,List.toList_toArray,c1]
  exact Qv hk
 ·have c1:(o==[])=false:=by simp[c0]
  rw[if_pos c0] at h
  simp only[Option.bind_eq_some_iff,Option.map_eq_some_iff,Prod.exists,Prod.mk.injEq] at h
  obtain⟨u,p2,h2,x,p3,h3,rfl,rfl⟩:=h
  simp only[go_sem]
  refine hs _ _ _ h1 _ _ (zF hp) ?_
  simp only[go_sem,zb hp]
  refine YL ht ho (zA hp) ?_
  simp only[go_sem,zb hp,Zm,YF,List.toList_toArray,c1]
  first | (unfold zl;simp only[ze,zc,zq,List.set_cons_succ,List.set_cons_zero,List.getD_cons_succ,List.getD_cons_zero]) | skip
  refine qS hT h2 (zA hp) ?_
  simp only[go_sem,zb hp]
  refine zP [] [(0,[8]),(0,[8]),(0,[8]),(0,[8]),(0,[]),(3,[8]),(0,[]),(0,[]),(1,[9])] mixed rfl ?_
  simp only[go_sem,zy,zu,zw,zt,zr,zG,zH,zx,zh,zd]
  refine⟨_,_,hs _ _ _ h3 _ _ (zA hp) ⟨rfl,rfl⟩,?_⟩
  simp only[go_sem,zy,zu,zw,zt,zr,zG,zH,zx,zh,zb hp]
  rw[zL]
  refine⟨.slice .full 6 [.agg (zD nd),zJ x],?_,?_⟩
  ·unfold zD
   simp only[go_sem]
   exact⟨⟨[],by simp⟩,X5 _ nd x,.inl rfl⟩
  rw[zL]
  refine⟨.agg [.sc (.int .i64 13),.sc (.string (ba o)),.sc (.int .i64 0),.sc (.int .i64 nd.pos),.slice .full 0 [],.slice .full 6 [.agg (zD nd),zJ x]],?_,?_⟩
  ·unfold zD
   simp only[go_sem]
   exact⟨⟨[],by simp⟩,KX (X5 _ nd x),.inl rfl⟩
  unfold zD
  simp only[go_sem,zy,zu,zw,zt,zr,zG,zH,zx,zh]
  exact jq hk
end Go.Proofs
