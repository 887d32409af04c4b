/- The document's parser: tyapp, con. -/
import Derived.Test.YtkokccjfpebomaaGreatDoorN2
import Derived.Test.YtkokccjfpebomaaGreatDoorA9
set_option maxHeartbeats 4000000
set_option linter.unusedSimpArgs false
set_option linter.unusedVariables false
set_option maxRecDepth 8000
namespace Go.AL
theorem zpZ {T:List Tk} {p q:PS} {t u:Tk} (h:zX T p=some t) {k:Int} (hk:t.kind=k) (hs:Zp T p=some (u,q)) (h0:k≠0:=by decide):u=t:=by
 unfold Zp at hs
 rw[h] at hs
 simp only[Option.map_some,Option.some.injEq] at hs
 rw[if_neg (by omega)] at hs
 cases hs;rfl
end Go.AL
namespace Go.Proofs
open Go Go.AL
theorem zt1 {T:List Tk} (hT:T.length≤100000) {pid:Nat} {I:PM Nd} (hI:∀ p r q,I p=some (r,q)→∃ ty,DC T pid 59 ty∧tyB T ty p=some (r,q)):DC T pid 59 (Ym T I):=by
 intro p r p' h K st hp hk
 refine zK (zC [] Tryz.func59 rfl Tryz.results59 Tryz.ntmps59 ?_)
 obtain⟨hd,h⟩:=zcW h
 rcases h with⟨h1,rfl⟩ | ⟨q1,h1,h2,h3,h4,rfl⟩
 ·simp only[go_sem]
  refine Jr hd h1 (zD hp) ?_
  simp only[go_sem,za hp]
  exact QU (m1 :=.full) (m2 :=.full) (z1:=0) (z2:=0) (nd:=JH) hk (.inr rfl) (.inr rfl)
 obtain⟨ty,hty,hb⟩:=hI _ _ _ h2
 unfold tyB at hb
 simp only[Option.bind_eq_some_iff,Prod.exists] at hb
 obtain⟨a0,ha0,x0,p1,h5,hL⟩:=hb
 have y1:=zT (XP (p':=q1) hp)
 unfold qH at y1
 have hw2:IntKind.i64.wrap ((q1.deep:Int)-1)=((q1.deep-1:Nat):Int):=by rw[IntWalk.i64_in _ (by omega)];omega
 simp only[go_sem]
 refine Jr hd h1 (zD hp) ?_
 simp only[go_sem,za hp]
 refine zlX ha0 (zx hp) ?_
 simp only[go_sem,za hp]
 refine Jc hT (by decide) h5 (zx hp) ?_
 simp only[go_sem,za hp]
 refine ZU (st.length+1) 5 6 0 (qY 1) (by simp) rfl ?_
 rw[Qi]
 simp only[List.length_append,Q9,List.length_cons,List.length_nil,List.set_cons_succ,List.set_cons_zero,List.append_assoc,List.cons_append,List.nil_append,Nat.zero_add,Nat.reduceAdd]
 refine JM [] (st.length+1) (fun m env s=>∃ (nd:Nd) (q:PS) (k:Nat) (ex:St),zjv T ty m nd q=some (r,q1)∧m+nd.kids.length≤T.length+2∧nd.names=[]∧env=[.ptr pid 0,.any,.ptr st.length 0,.any,.ptr (st.length+1) 0,.any,.any,.any,.any,.any,.any,.any,.any,.any,.any,.any,.any,.any,.any,.any,.any,.any,.any,.any,.any,.any,.any,.any,.any,.any,.any,.any,.any,.any,.any,.any,.any,.any,.any,.any,.any,.any,.any,.any,.any,.any,.any,.any,.any,.any,.any,.any,.any,.any,.any,.any,.any,.any,.any,.any,.any] ∧
  s=st.set pid (.cells (qH T q))++(.cells qD :: .cells (qq (st.length+2) k nd) :: .tok k::ex)) (n:=T.length+2) ?_ ⟨_,_,qY 1,XM _,zR 27 a0 x0 [],_,0,[],hL,by simp[zR,Nd.kids],rfl,rfl,by rw[Qi];rfl⟩ ?_
 ·repeat (first | exact zi | refine zh _ ?_ | refine zf _ ?_ | refine ze _ ?_)
 rintro m env s ⟨nd,q,k,ex,hl,hm,hnm,rfl,rfl⟩
 cases m with
 | zero=>cases hl
 | succ m =>
 unfold zjv at hl
 have y:=zT (XP (p':=q) hp)
 unfold qH at y
 by_cases c0:q.e=0
 rotate_left
 ·have c1:(q.e==0)=false:=by simp[c0]
  rw[if_neg c0] at hl
  cases hl
  unfold qq qD qH
  simp only[go_sem,y.1,y.2.1,y.2.2,c1,hw2,za hp]
  exact Qm (p':={ q1 with deep:=q1.deep-1 }) hk hnm
 have c1:(q.e==0)=true:=by simp[c0]
 rw[if_pos c0,Option.bind_eq_some_iff] at hl
 obtain⟨t,ht,hl⟩:=hl
 by_cases c3:t.kind=3
 ·have d3:(t.kind==3)=true:=by simp[c3]
  rw[if_pos c3,Option.bind_eq_some_iff] at hl
  obtain⟨⟨u,p2⟩,h6,hl⟩:=hl
  unfold qq qD qH
  simp only[go_sem,y.1,y.2.1,y.2.2,c1,za hp]
  refine qk ht (zx hp) ?_
  simp only[go_sem,d3]
  refine qL hT h6 (zx hp) ?_
  simp only[go_sem,za hp]
  have e6:=zpZ ht c3 h6
  subst e6
  refine⟨Tryz.app6d (by omega),m,_,by omega,?_,_,qq (st.length+2) (k+1) (nd.addKid (zR 27 u.pos u.text [])),qY 1,?_,nd.addKid (zR 27 u.pos u.text []),p2,k+1,_,hl,by rw[z8];simp;omega,by rw[qm];exact hnm,rfl,rfl⟩
  ·repeat (first | exact zi | refine zh _ ?_ | refine zf _ ?_ | refine ze _ ?_)
  ·rw[zh4]
   exact .cons (SVle.refl _) (.cons (SVle.refl _) (.cons (SVle.refl _) (.cons (SVle.refl _) (.cons (SVle.refl _) (.cons (SVle.elems (LeE.append (LeE.refl _) (.cons (.cons (SVle.refl _) (.cons (SVle.refl _) (.cons (SVle.refl _) (.cons (SVle.refl _) (.cons (SVle.nil .imm 0 1 (.inr rfl)) (.cons (SVle.nil .imm 0 6 (.inr rfl)) .nil)))))) .nil))) .nil)))))
 ·have d3:(t.kind==3)=false:=by simp[c3]
  rw[if_neg c3] at hl
  cases b1:isT t [40] with
  | false =>
   rw[if_neg (by rw[b1];decide)] at hl
   cases hl
   unfold qq qD qH
   simp only[go_sem,y.1,y.2.1,y.2.2,c1,za hp]
   refine qk ht (zx hp) ?_
   simp only[go_sem,d3]
   refine qr ht b1 (zx hp) ?_
   simp only[go_sem,y.1,y.2.1,y.2.2,c1,hw2,za hp]
   exact Qm (p':={ q1 with deep:=q1.deep-1 }) hk hnm
  | true =>
   rw[if_pos b1] at hl
   simp only[Option.bind_eq_some_iff,Prod.exists] at hl
   obtain⟨u,p2,h6,x,p3,h7,p4,h8,hl⟩:=hl
   unfold qq qD qH
   simp only[go_sem,y.1,y.2.1,y.2.2,c1,za hp]
   refine qk ht (zx hp) ?_
   simp only[go_sem,d3]
   refine qr ht b1 (zx hp) ?_
   simp only[go_sem]
   refine qL hT h6 (zx hp) ?_
   simp only[go_sem,za hp]
   refine zO [] [(0,[5]),(0,[5]),(0,[]),(3,[5]),(0,[]),(3,[7]),(0,[]),(1,[8])] Tryz.mixed rfl ?_
   simp only[go_sem,zw,zt,zr,zp,zq,zE,zF,zu,zg]
   refine⟨_,_,hty _ _ _ h7 _ _ (zx hp) ⟨rfl,rfl⟩,?_⟩
   simp only[go_sem,zw,zt,zr,zp,zq,zE,zF,zu,zg,za hp]
   rw[zJ]
   refine⟨.slice .full 6 [zH x],?_,?_⟩
   ·simp only[go_sem]
    exact⟨⟨[],by simp⟩,zY _ _ (.inr rfl) _ [_],.inl rfl⟩
   simp only[go_sem,zw,zt,zr,zp,zq,zE,zF,zu,zg]
   refine⟨_,_,⟨Tryz.app6d (by omega),rfl,rfl⟩,?_⟩
   simp only[go_sem]
   first | (unfold zk;simp only[zd,zb,zo,List.set_cons_succ,List.set_cons_zero,List.getD_cons_succ,List.getD_cons_zero]) | skip
   refine qX hT h8 (zx hp) fun _=>?_
   simp only[go_sem,za hp]
   refine⟨m,_,by omega,?_,_,qq (st.length+2) (k+1) (nd.addKid x),qY 1,by rw[zh4];exact XM _,nd.addKid x,p4,k+1,_,hl,by rw[z8];simp;omega,by rw[qm];exact hnm,rfl,rfl⟩
   repeat (first | exact zi | refine zh _ ?_ | refine zf _ ?_ | refine ze _ ?_)
theorem zvD {T:List Tk} (hT:T.length≤100000) {pid:Nat} {ty:PM Nd} (hty:DC T pid 59 ty):DC T pid 36 (zje T ty):=by
 intro p r p' h K st hp hk
 refine zK (zC [] Tryz.func36 rfl Tryz.results36 Tryz.ntmps36 ?_)
 unfold zje at h
 simp only[Option.bind_eq_some_iff,Prod.exists] at h
 obtain⟨a0,ha0,x0,p1,h5,b0,h6,hL⟩:=h
 simp only[go_sem]
 refine zlX ha0 (zD hp) ?_
 simp only[go_sem,za hp]
 refine Jc hT (by decide) h5 (zD hp) ?_
 simp only[go_sem,za hp]
 refine QN h6 (zx hp) ?_
 simp only[go_sem,za hp]
 refine ZU (st.length+1) 5 6 0 (qY 1) (by simp) rfl ?_
 rw[Qi]
 simp only[List.length_append,Q9,List.length_cons,List.length_nil,List.set_cons_succ,List.set_cons_zero,List.append_assoc,List.cons_append,List.nil_append,Nat.zero_add,Nat.reduceAdd]
 refine zM [] (fun m env s=>∃ (nd:Nd) (q:PS) (k:Nat) (more:Bool) (ex:St),zgd T ty m more nd q=some (r,p')∧m+nd.kids.length≤T.length+2∧nd.names=[]∧env=[.ptr pid 0,.any,.ptr st.length 0,.ptr (st.length+1) 0,.sc (.bool more),.any,.any,.any,.any,.any,.any,.any,.any,.any,.any,.any,.any,.any,.any,.any,.any,.any,.any,.any,.any,.any,.any,.any,.any,.any,.any,.any,.any,.any,.any,.any,.any,.any,.any] ∧
  s=st.set pid (.cells (qH T q))++(.cells qD :: .cells (qq (st.length+2) k nd) :: .tok k::ex)) (n:=T.length+2) ?_ ⟨_,_,0,_,[],hL,by simp[zR,Nd.kids],rfl,rfl,rfl⟩ ?_
 ·repeat (first | exact zi | refine zh _ ?_ | refine zf _ ?_ | refine ze _ ?_)
 rintro m env s ⟨nd,q,k,more,ex,hl,hm,hnm,rfl,rfl⟩
 cases m with
 | zero=>cases hl
 | succ m =>
 unfold zgd at hl
 have y:=zT (XP (p':=q) hp)
 unfold qH at y
 cases more with
 | false =>
  rw[if_neg (by simp)] at hl
  cases hl
  unfold qq qD
  simp only[go_sem]
  exact Qm hk hnm
 | true =>
  by_cases c0:q.e=0
  rotate_left
  ·have c1:(q.e==0)=false:=by simp[c0]
   rw[if_neg (by simp[c0])] at hl
   cases hl
   unfold qq qD qH
   simp only[go_sem,y.1,y.2.1,y.2.2,c1,za hp]
   exact Qm hk hnm
  have c1:(q.e==0)=true:=by simp[c0]
  rw[if_pos ⟨rfl,c0⟩] at hl
  simp only[Option.bind_eq_some_iff,Prod.exists] at hl
  obtain⟨u,p2,h7,p3,h8,x,p4,h9,b2,h10,hl⟩:=hl
  unfold qq qD qH
  by_cases c4:nd.kids.length=4
  ·have l1:((nd.kids.length:Int)==4)=true:=by simp[c4]
   unfold zck at h8
   rw[if_pos c4] at h8
   simp only[go_sem,y.1,y.2.1,y.2.2,c1,za hp]
   refine qL hT h7 (zx hp) ?_
   simp only[go_sem,za hp,List.length_map,l1]
   refine Z7 h8 (zx hp) fun _=>?_
   simp only[go_sem,za hp]
   refine zO [] [(0,[5]),(0,[5]),(0,[]),(3,[5]),(0,[]),(3,[7]),(0,[]),(1,[8])] Tryz.mixed rfl ?_
   simp only[go_sem,zw,zt,zr,zp,zq,zE,zF,zu,zg]
   refine⟨_,_,hty _ _ _ h9 _ _ (zx hp) ⟨rfl,rfl⟩,?_⟩
   simp only[go_sem,zw,zt,zr,zp,zq,zE,zF,zu,zg,za hp]
   rw[zJ]
   refine⟨.slice .full 6 [zH x],?_,?_⟩
   ·simp only[go_sem]
    exact⟨⟨[],by simp⟩,zY _ _ (.inr rfl) _ [_],.inl rfl⟩
   simp only[go_sem,zw,zt,zr,zp,zq,zE,zF,zu,zg]
   refine⟨_,_,⟨Tryz.app6d (by omega),rfl,rfl⟩,?_⟩
   simp only[go_sem]
   first | (unfold zk;simp only[zd,zb,zo,List.set_cons_succ,List.set_cons_zero,List.getD_cons_succ,List.getD_cons_zero]) | skip
   refine QN h10 (zx hp) ?_
   simp only[go_sem,za hp]
   refine⟨m,_,by omega,?_,nd.addKid x,p4,k+1,b2,_,hl,by rw[z8];simp;omega,by rw[qm];exact hnm,rfl,by rw[qM,qO,Zf,Zg,z8,List.map_append];rfl⟩
   repeat (first | exact zi | refine zh _ ?_ | refine zf _ ?_ | refine ze _ ?_)
  ·have l1:((nd.kids.length:Int)==4)=false:=by simp;omega
   unfold zck at h8
   rw[if_neg c4] at h8
   cases h8
   simp only[go_sem,y.1,y.2.1,y.2.2,c1,za hp]
   refine qL hT h7 (zx hp) ?_
   simp only[go_sem,za hp,List.length_map,l1]
   refine zO [] [(0,[5]),(0,[5]),(0,[]),(3,[5]),(0,[]),(3,[7]),(0,[]),(1,[8])] Tryz.mixed rfl ?_
   simp only[go_sem,zw,zt,zr,zp,zq,zE,zF,zu,zg]
   refine⟨_,_,hty _ _ _ h9 _ _ (zx hp) ⟨rfl,rfl⟩,?_⟩
   simp only[go_sem,zw,zt,zr,zp,zq,zE,zF,zu,zg,za hp]
   rw[zJ]
   refine⟨.slice .full 6 [zH x],?_,?_⟩
   ·simp only[go_sem]
    exact⟨⟨[],by simp⟩,zY _ _ (.inr rfl) _ [_],.inl rfl⟩
   simp only[go_sem,zw,zt,zr,zp,zq,zE,zF,zu,zg]
   refine⟨_,_,⟨Tryz.app6d (by omega),rfl,rfl⟩,?_⟩
   simp only[go_sem]
   first | (unfold zk;simp only[zd,zb,zo,List.set_cons_succ,List.set_cons_zero,List.getD_cons_succ,List.getD_cons_zero]) | skip
   refine QN h10 (zx hp) ?_
   simp only[go_sem,za hp]
   refine⟨m,_,by omega,?_,nd.addKid x,p4,k+1,b2,_,hl,by rw[z8];simp;omega,by rw[qm];exact hnm,rfl,by rw[qM,qO,Zf,Zg,z8,List.map_append];rfl⟩
   repeat (first | exact zi | refine zh _ ?_ | refine zf _ ?_ | refine ze _ ?_)
end Go.Proofs
namespace Go.AL
theorem X7 {T:List Tk} {part:PM Nd} {a b c:Tx} {n:Nat} {nd r:Nd} {p q:PS} (h:VA T part a b c n nd p=some (r,q)):∃ m t,n=m+1∧zX T p=some t ∧
  (if opR t a b c≠[] then (Zp T p).bind fun r=>(part r.2).bind fun q=>VA T part a b c m (zR 13 nd.pos (opR t a b c) [nd,q.1]) q.2 else some (nd,p))=some (r,q):=by
 cases n with
 | zero=>cases h
 | succ m =>
  unfold VA at h
  rw[Option.bind_eq_some_iff] at h
  obtain⟨t,h1,h2⟩:=h
  exact⟨m,t,rfl,h1,h2⟩
theorem zjK {x y:SV} (h:SVle (norm1 x) y):SVle x y:=fun st σ w v hr=>h st σ w v hr.norm1
theorem zbr {n:Nat} {k a m:Int} {t:Tx} {y:SV} (h:Ids n y):Ids n (.agg [.sc (.int .i64 k),.sc (.string (ba t)),.sc (.int .i64 m),.sc (.int .i64 a),.slice .full 0 [],y]):=by
 rw[ZW]
 simp only[List.forall_mem_cons,Yj,true_and]
 exact⟨qf (.inr rfl) (fun x hx=>by cases hx),h,fun x hx=>by cases hx⟩
theorem zkD {k a:Int} {t:Tx} {n x:Nd}:SVles [.sc (.int .i64 k),.sc (.string (ba t)),.sc (.int .i64 0),.sc (.int .i64 a),.slice .full 0 [],.slice .full 6 [.agg (zy n),zH x]] (zy (zR k a t [n,x])):=by
 refine .cons (SVle.refl _) (.cons (SVle.refl _) (.cons (SVle.refl _) (.cons (SVle.refl _) (.cons ?_ (.cons ?_ .nil)))))
 ·exact zjK (zoY (l:=[]) (.inr rfl))
 ·refine fun st σ w v hv=>?_
  have h1:=SVle.elems (m :=.full) (z:=6) (l:=[.agg (zy n),zH x]) (r:=[zH n,zH x]) (.cons (by rw[zc];exact XM _) (.cons (XM _) .nil)) _ _ _ _ hv
  exact zjK (zo1 (m :=.full) (l:=[n,x]) (.inl rfl)) _ _ _ _ h1
theorem zqe (n:Nat) (a b:Nd):Ids n (.slice .imm 6 [.agg (zy a),zH b]) :=
 qf (.inl rfl) fun x hx y hy=>by
  simp only[List.mem_cons,List.not_mem_nil,or_false] at hx
  rcases hx with rfl | rfl
  ·have:=JZ n a
   rw[Ze,ZW] at this
   exact this y hy
  ·have:=JZ n b
   rw[Ze,ZW] at this
   rw[zc] at hy
   exact this y hy
theorem zjH {T:List Tk} {pid:Nat} {p':PS} {k a:Int} {t:Tx} {n x:Nd} {st:St} {K:SV→St→Prop} (hk:K (zH (zR k a t [n,x])) (st.set pid (.cells (qH T p')))) {ex:St} :
  Yd st (LeK K) (.agg [.sc (.int .i64 k),.sc (.string (ba t)),.sc (.int .i64 0),.sc (.int .i64 a),.slice .full 0 [],.slice .full 6 [.agg (zy n),zH x]]) (st.set pid (.cells (qH T p'))++ex):=by
 refine⟨_,ex,rfl,(Mod.refl _).set _ _ (JX _ _ _),?_,_,?_,hk⟩
 ·show Ids _ (.agg [.sc (.int .i64 k),.sc (.string (ba t)),.sc (.int .i64 0),.sc (.int .i64 a),.slice .imm 0 [],.slice .imm 6 [.agg (zy n),zH x]])
  rw[ZW]
  simp only[List.forall_mem_cons,Yj,true_and]
  exact⟨qf (.inl rfl) (fun x hx=>by cases hx),zqe _ n x,fun x hx=>by cases hx⟩
 ·show SVle (.agg [.sc (.int .i64 k),.sc (.string (ba t)),.sc (.int .i64 0),.sc (.int .i64 a),.slice .imm 0 [],.slice .imm 6 [.agg (zy n),zH x]]) _
  exact SVle.agg (.cons (SVle.refl _) (.cons (SVle.refl _) (.cons (SVle.refl _) (.cons (SVle.refl _) (.cons (SVle.nil .imm 0 1 (.inr rfl)) (.cons (SVle.elems (.cons (by rw[zc];exact XM _) (.cons (XM _) .nil))) .nil))))))
theorem XC (n:Nat) (a b:Nd):Ids n (.slice .full 6 [.agg (zy a),zH b]) :=
 qf (.inr rfl) fun x hx y hy=>by
  have h2:=zY n .full (.inr rfl) 6 [a,b]
  simp only[List.mem_cons,List.not_mem_nil,or_false] at hx
  rcases hx with rfl | rfl
  ·have:=JZ n a
   rw[Ze,ZW] at this
   exact this y hy
  ·have:=JZ n b
   rw[Ze,ZW] at this
   rw[zc] at hy
   exact this y hy
end Go.AL
namespace Go.Proofs
open Go Go.AL
theorem zrj {T:List Tk} (hT:T.length≤100000) {pid:Nat} {part:PM Nd} (hpt:DC T pid 127 part):DC T pid 110 (zdh T part [42] [47] [37]):=by
 intro p r p' h K st hp hk
 refine zK (zC [] Tryz.func110 rfl Tryz.results110 Tryz.ntmps110 ?_)
 unfold zdh at h
 simp only[Option.bind_eq_some_iff,Prod.exists] at h
 obtain⟨n0,p1,h1,hL⟩:=h
 obtain⟨m0,t0,hm0,ht0,_⟩:=X7 hL
 simp only[go_sem]
 refine hpt _ _ _ h1 _ _ (zD hp) ?_
 simp only[go_sem,za hp]
 refine zi7 ht0 (zx hp) ?_
 simp only[go_sem,za hp]
 refine JM [] (st.length+1) (fun m env s=>∃ (nd:Nd) (q:PS) (t:Tk) (ex:St),VA T part [42] [47] [37] m nd q=some (r,p')∧zX T q=some t∧env=[.ptr pid 0,.any,.ptr st.length 0,.ptr (st.length+1) 0,.sc (.string (ba (opR t [42] [47] [37]))),.any,.any,.any,.any,.any,.any,.any,.any,.any,.any,.any,.any,.any,.any,.any,.any,.any,.any,.any] ∧
  s=st.set pid (.cells (qH T q))++(.cells qD :: .cells (zy nd)::ex)) (n:=T.length+2) ?_ ⟨_,_,qY 1,XM _,n0,_,t0,[],hL,ht0,rfl,by rw[Qi,zc];rfl⟩ ?_
 ·repeat (first | exact zi | refine zh _ ?_ | refine zf _ ?_ | refine ze _ ?_)
 rintro m env s ⟨nd,q,t,ex,hl,ht,rfl,rfl⟩
 obtain⟨m,t',rfl,ht',hl⟩:=X7 hl
 rw[ht] at ht';cases ht'
 obtain⟨o,ho⟩:∃ o,opR t [42] [47] [37]=o:=⟨_,rfl⟩
 rw[ho] at hl
 by_cases c0:o=[]
 ·have c1:(o==[])=true:=by simp[c0]
  rw[if_neg (by simp[c0])] at hl
  cases hl
  rw[ho]
  unfold zy qD
  simp only[go_sem,Xk,Yi,List.toList_toArray,c1]
  exact QU (m1 :=.imm) (m2 :=.imm) (z1:=1) (z2:=6) hk (.inl rfl) (.inl rfl)
 ·have c1:(o==[])=false:=by simp[c0]
  rw[if_pos c0] at hl
  simp only[Option.bind_eq_some_iff,Prod.exists] at hl
  obtain⟨u,p2,h2,x,p3,h3,hl⟩:=hl
  obtain⟨m1,t1,rfl,ht1,_⟩:=X7 hl
  rw[ho]
  unfold zy qD
  simp only[go_sem,Xk,Yi,List.toList_toArray,c1]
  refine qL hT h2 (zx hp) ?_
  simp only[go_sem,za hp]
  refine zO [] [(0,[8]),(0,[8]),(0,[8]),(0,[8]),(0,[]),(3,[8]),(0,[]),(0,[]),(1,[9])] Tryz.mixed rfl ?_
  simp only[go_sem,zw,zt,zr,zp,zq,zE,zF,zu,zg]
  refine⟨_,_,hpt _ _ _ h3 _ _ (zx hp) ⟨rfl,rfl⟩,?_⟩
  simp only[go_sem,zw,zt,zr,zp,zq,zE,zF,zu,zg,za hp]
  rw[zJ]
  refine⟨.slice .full 6 [.agg (zy nd),zH x],?_,?_⟩
  ·unfold zy
   simp only[go_sem]
   exact⟨⟨[],by simp⟩,XC _ nd x,.inl rfl⟩
  rw[zJ]
  refine⟨.agg [.sc (.int .i64 13),.sc (.string (ba o)),.sc (.int .i64 0),.sc (.int .i64 nd.pos),.slice .full 0 [],.slice .full 6 [.agg (zy nd),zH x]],?_,?_⟩
  ·unfold zy
   simp only[go_sem]
   exact⟨⟨[],by simp⟩,zbr (XC _ nd x),.inl rfl⟩
  unfold zy
  simp only[go_sem,zw,zt,zr,zp,zq,zE,zF,zu,zg]
  refine zi7 ht1 (zx hp) ?_
  simp only[go_sem,za hp]
  refine⟨_,_,Nat.lt_succ_self _,?_,_,_,qY 1,zkD,zR 13 nd.pos o [nd,x],p3,t1,_,hl,ht1,rfl,rfl⟩
  repeat (first | exact zi | refine zh _ ?_ | refine zf _ ?_ | refine ze _ ?_)
theorem zvJ {T:List Tk} (hT:T.length≤100000) {pid:Nat} {part:PM Nd} (hpt:DC T pid 110 part):DC T pid 85 (zdh T part [43] [45] [94]):=by
 intro p r p' h K st hp hk
 refine zK (zC [] Tryz.func85 rfl Tryz.results85 Tryz.ntmps85 ?_)
 unfold zdh at h
 simp only[Option.bind_eq_some_iff,Prod.exists] at h
 obtain⟨n0,p1,h1,hL⟩:=h
 obtain⟨m0,t0,hm0,ht0,_⟩:=X7 hL
 simp only[go_sem]
 refine hpt _ _ _ h1 _ _ (zD hp) ?_
 simp only[go_sem,za hp]
 refine zi7 ht0 (zx hp) ?_
 simp only[go_sem,za hp]
 refine JM [] (st.length+1) (fun m env s=>∃ (nd:Nd) (q:PS) (t:Tk) (ex:St),VA T part [43] [45] [94] m nd q=some (r,p')∧zX T q=some t∧env=[.ptr pid 0,.any,.ptr st.length 0,.ptr (st.length+1) 0,.sc (.string (ba (opR t [43] [45] [94]))),.any,.any,.any,.any,.any,.any,.any,.any,.any,.any,.any,.any,.any,.any,.any,.any,.any,.any,.any] ∧
  s=st.set pid (.cells (qH T q))++(.cells qD :: .cells (zy nd)::ex)) (n:=T.length+2) ?_ ⟨_,_,qY 1,XM _,n0,_,t0,[],hL,ht0,rfl,by rw[Qi,zc];rfl⟩ ?_
 ·repeat (first | exact zi | refine zh _ ?_ | refine zf _ ?_ | refine ze _ ?_)
 rintro m env s ⟨nd,q,t,ex,hl,ht,rfl,rfl⟩
 obtain⟨m,t',rfl,ht',hl⟩:=X7 hl
 rw[ht] at ht';cases ht'
 obtain⟨o,ho⟩:∃ o,opR t [43] [45] [94]=o:=⟨_,rfl⟩
 rw[ho] at hl
 by_cases c0:o=[]
 ·have c1:(o==[])=true:=by simp[c0]
  rw[if_neg (by simp[c0])] at hl
  cases hl
  rw[ho]
  unfold zy qD
  simp only[go_sem,Xk,Yi,List.toList_toArray,c1]
  exact QU (m1 :=.imm) (m2 :=.imm) (z1:=1) (z2:=6) hk (.inl rfl) (.inl rfl)
 ·have c1:(o==[])=false:=by simp[c0]
  rw[if_pos c0] at hl
  simp only[Option.bind_eq_some_iff,Prod.exists] at hl
  obtain⟨u,p2,h2,x,p3,h3,hl⟩:=hl
  obtain⟨m1,t1,rfl,ht1,_⟩:=X7 hl
  rw[ho]
  unfold zy qD
  simp only[go_sem,Xk,Yi,List.toList_toArray,c1]
  refine qL hT h2 (zx hp) ?_
  simp only[go_sem,za hp]
  refine zO [] [(0,[8]),(0,[8]),(0,[8]),(0,[8]),(0,[]),(3,[8]),(0,[]),(0,[]),(1,[9])] Tryz.mixed rfl ?_
  simp only[go_sem,zw,zt,zr,zp,zq,zE,zF,zu,zg]
  refine⟨_,_,hpt _ _ _ h3 _ _ (zx hp) ⟨rfl,rfl⟩,?_⟩
  simp only[go_sem,zw,zt,zr,zp,zq,zE,zF,zu,zg,za hp]
  rw[zJ]
  refine⟨.slice .full 6 [.agg (zy nd),zH x],?_,?_⟩
  ·unfold zy
   simp only[go_sem]
   exact⟨⟨[],by simp⟩,XC _ nd x,.inl rfl⟩
  rw[zJ]
  refine⟨.agg [.sc (.int .i64 13),.sc (.string (ba o)),.sc (.int .i64 0),.sc (.int .i64 nd.pos),.slice .full 0 [],.slice .full 6 [.agg (zy nd),zH x]],?_,?_⟩
  ·unfold zy
   simp only[go_sem]
   exact⟨⟨[],by simp⟩,zbr (XC _ nd x),.inl rfl⟩
  unfold zy
  simp only[go_sem,zw,zt,zr,zp,zq,zE,zF,zu,zg]
  refine zi7 ht1 (zx hp) ?_
  simp only[go_sem,za hp]
  refine⟨_,_,Nat.lt_succ_self _,?_,_,_,qY 1,zkD,zR 13 nd.pos o [nd,x],p3,t1,_,hl,ht1,rfl,rfl⟩
  repeat (first | exact zi | refine zh _ ?_ | refine zf _ ?_ | refine ze _ ?_)
theorem zuD {T:List Tk} (hT:T.length≤100000) {pid:Nat} {e pt:PM Nd} (hs:DC T pid 85 (zrw T e pt)):DC T pid 60 (zfr T e pt):=by
 intro p r p' h K st hp hk
 refine zK (zC [] Tryz.func60 rfl Tryz.results60 Tryz.ntmps60 ?_)
 unfold zfr at h
 simp only[Option.bind_eq_some_iff,Prod.exists] at h
 obtain⟨nd,p1,h1,t,ht,h⟩:=h
 obtain⟨o,ho⟩:∃ o,opR t [61] [60] [61]=o:=⟨_,rfl⟩
 rw[ho] at h
 by_cases c0:o=[]
 ·have c1:(o==[])=true:=by simp[c0]
  rw[if_neg (by simp[c0])] at h
  cases h
  simp only[go_sem]
  refine hs _ _ _ h1 _ _ (zD hp) ?_
  simp only[go_sem,za hp]
  refine Yc ht ho (zx hp) ?_
  simp only[go_sem,za hp,Xk,Yi,List.toList_toArray,c1]
  exact Qh hk
 ·have c1:(o==[])=false:=by simp[c0]
  rw[if_pos c0] at h
  simp only[Option.bind_eq_some_iff,Option.map_eq_some_iff,Prod.exists,Prod.mk.injEq] at h
  obtain⟨u,p2,h2,x,p3,h3,rfl,rfl⟩:=h
  simp only[go_sem]
  refine hs _ _ _ h1 _ _ (zD hp) ?_
  simp only[go_sem,za hp]
  refine Yc ht ho (zx hp) ?_
  simp only[go_sem,za hp,Xk,Yi,List.toList_toArray,c1]
  first | (unfold zk;simp only[zd,zb,zo,List.set_cons_succ,List.set_cons_zero,List.getD_cons_succ,List.getD_cons_zero]) | skip
  refine qL hT h2 (zx hp) ?_
  simp only[go_sem,za hp]
  refine zO [] [(0,[8]),(0,[8]),(0,[8]),(0,[8]),(0,[]),(3,[8]),(0,[]),(0,[]),(1,[9])] Tryz.mixed rfl ?_
  simp only[go_sem,zw,zt,zr,zp,zq,zE,zF,zu,zg,zc]
  refine⟨_,_,hs _ _ _ h3 _ _ (zx hp) ⟨rfl,rfl⟩,?_⟩
  simp only[go_sem,zw,zt,zr,zp,zq,zE,zF,zu,zg,za hp]
  rw[zJ]
  refine⟨.slice .full 6 [.agg (zy nd),zH x],?_,?_⟩
  ·unfold zy
   simp only[go_sem]
   exact⟨⟨[],by simp⟩,XC _ nd x,.inl rfl⟩
  rw[zJ]
  refine⟨.agg [.sc (.int .i64 13),.sc (.string (ba o)),.sc (.int .i64 0),.sc (.int .i64 nd.pos),.slice .full 0 [],.slice .full 6 [.agg (zy nd),zH x]],?_,?_⟩
  ·unfold zy
   simp only[go_sem]
   exact⟨⟨[],by simp⟩,zbr (XC _ nd x),.inl rfl⟩
  unfold zy
  simp only[go_sem,zw,zt,zr,zp,zq,zE,zF,zu,zg]
  exact zjH hk
end Go.Proofs
