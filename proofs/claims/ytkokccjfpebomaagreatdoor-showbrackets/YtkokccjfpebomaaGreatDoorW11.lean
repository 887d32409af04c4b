/- pat. Written by gen_w11.py. -/
import Derived.Test.YtkokccjfpebomaaGreatDoorN7
set_option maxHeartbeats 4000000
set_option linter.unusedSimpArgs false
set_option linter.unusedVariables false
set_option maxRecDepth 8000
namespace Go.Proofs
open Go Go.AL Tryz
theorem FY {t:Tk} (h:t.kind=4) (s:Tx):isT t s=false:=by
 unfold isT;simp[h]
theorem ic {T:List Tk} (hT:T.length≤100000) {pid:Nat} {e:PM Nd} (he:HC T pid 170 e):HC T pid 170 (Do T e):=by
 intro p r p' h K st hp hk
 unfold Do at h
 simp only[Option.bind_eq_some_iff,Prod.exists] at h
 obtain⟨t0,h1,n0,p1,h2,h⟩:=h
 refine zM (zE [] func170 rfl results170 ntmps170 ?_)
 by_cases hc:t0.kind=4
 ·have c0:(t0.kind==4)=true:=by simp[hc]
  rw[c0] at h
  have hl0:Xs T [(1,1),(3,4),(4,5)] p=some (n0,p1):=by
   unfold Yf at h2
   rw[h1] at h2
   simp only[Option.bind_some,Xx,Jn,h1,Option.map_some,FY hc,Bool.false_eq_true,if_false] at h2
   exact h2
  have hnm0:=Y7 hl0
  simp only[go_sem]
  refine qv h1 (zI hp) ?_
  simp only[go_sem,c0]
  refine LX hT h1 (FY hc _) (FY hc _) hl0 (zI hp) ?_
  rw[Fy hnm0]
  simp only[go_sem,zb hp]
  refine Z1 (st.length+1) 5 6 0 (Zg 1) (by simp) rfl ?_
  rw[QA]
  simp only[List.length_append,Xn,List.length_cons,List.length_nil,List.set_cons_succ,List.set_cons_zero,List.append_assoc,List.cons_append,List.nil_append,Nat.zero_add,Nat.reduceAdd]
  refine zN [] (fun m env s=>∃ (nd:Nd) (q:PS) (k:Nat) (ex:St),WY T e m true nd q=some (r,p')∧m+nd.kids.length≤T.length+2∧nd.names=[]∧env=[.ptr pid 0,.any,.ptr st.length 0,.sc (.bool (t0.kind==4)),.ptr (st.length+1) 0,.any,.any,.any,.any,.any,.any,.any,.any,.any,.any,.any,.any,.any,.any,.any,.any,.any,.any,.any,.any,.any,.any,.any,.any,.any,.any,.any,.any,.any,.any,.any,.any,.any,.any,.any,.any,.any,.any,.any,.any,.any,.any,.any,.any,.any,.any] ∧
   s=st.set pid (.cells (Z9 T q))++(.cells qK :: .cells (qw (st.length+2) k nd) :: .tok k::ex)) (n:=T.length+2) ?_ ⟨n0,_,0,[],h,by rw[hnm0.2];simp,hnm0.1,rfl,by unfold qw;rw[hnm0.2];rfl⟩ ?_
  ·repeat (first | exact zj | refine zk _ ?_ | refine zg _ ?_ | refine zf _ ?_)
  rintro m env s ⟨nd,q,k,ex,hl,hm,hnm,rfl,rfl⟩
  cases m with
  | zero=>cases hl
  | succ m =>
  simp only[WY,if_true,Option.bind_eq_some_iff] at hl
  obtain⟨b,hb,hl⟩:=hl
  unfold JE at hb
  rw[Option.map_eq_some_iff] at hb
  obtain⟨t,ht,hb⟩:=hb
  cases b0:isT t [95] with
  | true =>
   simp only[b0,Bool.true_or,Bool.or_true] at hb
   subst hb
   simp only[if_true,Option.bind_eq_some_iff,Prod.exists] at hl
   obtain⟨q1,h3,x,q2,h4,hl⟩:=hl
   unfold qw
   simp only[go_sem,c0]
   refine ZB ht (zm hp) ?_
   simp only[go_sem,c0,b0]
   first | (unfold zl;simp only[ze,zc,zq,List.set_cons_succ,List.set_cons_zero,List.getD_cons_succ,List.getD_cons_zero]) | skip
   refine Y5 (p':=q1) (n:=nd.kids.length) (by simpa using h3) (zm hp) fun _=>?_
   simp only[go_sem,zb hp]
   refine zP [] [(0,[5]),(0,[5]),(0,[]),(3,[5]),(0,[]),(3,[7]),(0,[]),(1,[8])] mixed rfl ?_
   simp only[go_sem,zy,zu,zw,zt,zr,zG,zH,zx,zh,qK]
   refine⟨_,_,Kk hT he _ _ _ h4 _ _ (zm hp) ⟨rfl,rfl⟩,?_⟩
   simp only[go_sem,zy,zu,zw,zt,zr,zG,zH,zx,zh,zb hp]
   rw[zL]
   refine⟨.slice .full 6 [zJ x],?_,?_⟩
   ·simp only[go_sem]
    exact⟨⟨[],by simp⟩,qb _ _ (.inr rfl) _ [_],.inl rfl⟩
   simp only[go_sem,zy,zu,zw,zt,zr,zG,zH,zx,zh]
   refine⟨_,_,⟨Tryz.app6 (by omega),rfl,rfl⟩,?_⟩
   simp only[go_sem]
   refine⟨m,_,by omega,?_,nd.addKid x,q2,k+1,_,hl,by rw[qc];simp;omega,by rw[qs];exact hnm,rfl,by rw[qV,qU,Zq,Zp,qc,List.map_append];rfl⟩
   repeat (first | exact zj | refine zk _ ?_ | refine zg _ ?_ | refine zf _ ?_)
  | false =>
   cases b1:isT t [40] with
   | true =>
    simp only[b1,Bool.true_or,Bool.or_true] at hb
    subst hb
    simp only[if_true,Option.bind_eq_some_iff,Prod.exists] at hl
    obtain⟨q1,h3,x,q2,h4,hl⟩:=hl
    unfold qw
    simp only[go_sem,c0]
    refine ZB ht (zm hp) ?_
    simp only[go_sem,c0,b0]
    first | (unfold zl;simp only[ze,zc,zq,List.set_cons_succ,List.set_cons_zero,List.getD_cons_succ,List.getD_cons_zero]) | skip
    refine ZB ht (zm hp) ?_
    simp only[go_sem,c0,b0,b1]
    first | (unfold zl;simp only[ze,zc,zq,List.set_cons_succ,List.set_cons_zero,List.getD_cons_succ,List.getD_cons_zero]) | skip
    refine Y5 (p':=q1) (n:=nd.kids.length) (by simpa using h3) (zm hp) fun _=>?_
    simp only[go_sem,zb hp]
    refine zP [] [(0,[5]),(0,[5]),(0,[]),(3,[5]),(0,[]),(3,[7]),(0,[]),(1,[8])] mixed rfl ?_
    simp only[go_sem,zy,zu,zw,zt,zr,zG,zH,zx,zh,qK]
    refine⟨_,_,Kk hT he _ _ _ h4 _ _ (zm hp) ⟨rfl,rfl⟩,?_⟩
    simp only[go_sem,zy,zu,zw,zt,zr,zG,zH,zx,zh,zb hp]
    rw[zL]
    refine⟨.slice .full 6 [zJ x],?_,?_⟩
    ·simp only[go_sem]
     exact⟨⟨[],by simp⟩,qb _ _ (.inr rfl) _ [_],.inl rfl⟩
    simp only[go_sem,zy,zu,zw,zt,zr,zG,zH,zx,zh]
    refine⟨_,_,⟨Tryz.app6 (by omega),rfl,rfl⟩,?_⟩
    simp only[go_sem]
    refine⟨m,_,by omega,?_,nd.addKid x,q2,k+1,_,hl,by rw[qc];simp;omega,by rw[qs];exact hnm,rfl,by rw[qV,qU,Zq,Zp,qc,List.map_append];rfl⟩
    repeat (first | exact zj | refine zk _ ?_ | refine zg _ ?_ | refine zf _ ?_)
   | false =>
    cases b2:(t.kind==3) with
    | true =>
     simp only[b2,Bool.true_or,Bool.or_true] at hb
     subst hb
     simp only[if_true,Option.bind_eq_some_iff,Prod.exists] at hl
     obtain⟨q1,h3,x,q2,h4,hl⟩:=hl
     unfold qw
     simp only[go_sem,c0]
     refine ZB ht (zm hp) ?_
     simp only[go_sem,c0,b0]
     first | (unfold zl;simp only[ze,zc,zq,List.set_cons_succ,List.set_cons_zero,List.getD_cons_succ,List.getD_cons_zero]) | skip
     refine ZB ht (zm hp) ?_
     simp only[go_sem,c0,b0,b1]
     first | (unfold zl;simp only[ze,zc,zq,List.set_cons_succ,List.set_cons_zero,List.getD_cons_succ,List.getD_cons_zero]) | skip
     refine qv ht (zm hp) ?_
     simp only[go_sem,c0,b0,b1,b2]
     first | (unfold zl;simp only[ze,zc,zq,List.set_cons_succ,List.set_cons_zero,List.getD_cons_succ,List.getD_cons_zero]) | skip
     refine Y5 (p':=q1) (n:=nd.kids.length) (by simpa using h3) (zm hp) fun _=>?_
     simp only[go_sem,zb hp]
     refine zP [] [(0,[5]),(0,[5]),(0,[]),(3,[5]),(0,[]),(3,[7]),(0,[]),(1,[8])] mixed rfl ?_
     simp only[go_sem,zy,zu,zw,zt,zr,zG,zH,zx,zh,qK]
     refine⟨_,_,Kk hT he _ _ _ h4 _ _ (zm hp) ⟨rfl,rfl⟩,?_⟩
     simp only[go_sem,zy,zu,zw,zt,zr,zG,zH,zx,zh,zb hp]
     rw[zL]
     refine⟨.slice .full 6 [zJ x],?_,?_⟩
     ·simp only[go_sem]
      exact⟨⟨[],by simp⟩,qb _ _ (.inr rfl) _ [_],.inl rfl⟩
     simp only[go_sem,zy,zu,zw,zt,zr,zG,zH,zx,zh]
     refine⟨_,_,⟨Tryz.app6 (by omega),rfl,rfl⟩,?_⟩
     simp only[go_sem]
     refine⟨m,_,by omega,?_,nd.addKid x,q2,k+1,_,hl,by rw[qc];simp;omega,by rw[qs];exact hnm,rfl,by rw[qV,qU,Zq,Zp,qc,List.map_append];rfl⟩
     repeat (first | exact zj | refine zk _ ?_ | refine zg _ ?_ | refine zf _ ?_)
    | false =>
     cases b3:(t.kind==1) with
     | true =>
      simp only[b3,Bool.true_or,Bool.or_true] at hb
      subst hb
      simp only[if_true,Option.bind_eq_some_iff,Prod.exists] at hl
      obtain⟨q1,h3,x,q2,h4,hl⟩:=hl
      unfold qw
      simp only[go_sem,c0]
      refine ZB ht (zm hp) ?_
      simp only[go_sem,c0,b0]
      first | (unfold zl;simp only[ze,zc,zq,List.set_cons_succ,List.set_cons_zero,List.getD_cons_succ,List.getD_cons_zero]) | skip
      refine ZB ht (zm hp) ?_
      simp only[go_sem,c0,b0,b1]
      first | (unfold zl;simp only[ze,zc,zq,List.set_cons_succ,List.set_cons_zero,List.getD_cons_succ,List.getD_cons_zero]) | skip
      refine qv ht (zm hp) ?_
      simp only[go_sem,c0,b0,b1,b2]
      first | (unfold zl;simp only[ze,zc,zq,List.set_cons_succ,List.set_cons_zero,List.getD_cons_succ,List.getD_cons_zero]) | skip
      refine qv ht (zm hp) ?_
      simp only[go_sem,c0,b0,b1,b2,b3]
      first | (unfold zl;simp only[ze,zc,zq,List.set_cons_succ,List.set_cons_zero,List.getD_cons_succ,List.getD_cons_zero]) | skip
      refine Y5 (p':=q1) (n:=nd.kids.length) (by simpa using h3) (zm hp) fun _=>?_
      simp only[go_sem,zb hp]
      refine zP [] [(0,[5]),(0,[5]),(0,[]),(3,[5]),(0,[]),(3,[7]),(0,[]),(1,[8])] mixed rfl ?_
      simp only[go_sem,zy,zu,zw,zt,zr,zG,zH,zx,zh,qK]
      refine⟨_,_,Kk hT he _ _ _ h4 _ _ (zm hp) ⟨rfl,rfl⟩,?_⟩
      simp only[go_sem,zy,zu,zw,zt,zr,zG,zH,zx,zh,zb hp]
      rw[zL]
      refine⟨.slice .full 6 [zJ x],?_,?_⟩
      ·simp only[go_sem]
       exact⟨⟨[],by simp⟩,qb _ _ (.inr rfl) _ [_],.inl rfl⟩
      simp only[go_sem,zy,zu,zw,zt,zr,zG,zH,zx,zh]
      refine⟨_,_,⟨Tryz.app6 (by omega),rfl,rfl⟩,?_⟩
      simp only[go_sem]
      refine⟨m,_,by omega,?_,nd.addKid x,q2,k+1,_,hl,by rw[qc];simp;omega,by rw[qs];exact hnm,rfl,by rw[qV,qU,Zq,Zp,qc,List.map_append];rfl⟩
      repeat (first | exact zj | refine zk _ ?_ | refine zg _ ?_ | refine zf _ ?_)
     | false =>
      cases b4:(t.kind==4) with
      | true =>
       simp only[b4,Bool.true_or,Bool.or_true] at hb
       subst hb
       simp only[if_true,Option.bind_eq_some_iff,Prod.exists] at hl
       obtain⟨q1,h3,x,q2,h4,hl⟩:=hl
       unfold qw
       simp only[go_sem,c0]
       refine ZB ht (zm hp) ?_
       simp only[go_sem,c0,b0]
       first | (unfold zl;simp only[ze,zc,zq,List.set_cons_succ,List.set_cons_zero,List.getD_cons_succ,List.getD_cons_zero]) | skip
       refine ZB ht (zm hp) ?_
       simp only[go_sem,c0,b0,b1]
       first | (unfold zl;simp only[ze,zc,zq,List.set_cons_succ,List.set_cons_zero,List.getD_cons_succ,List.getD_cons_zero]) | skip
       refine qv ht (zm hp) ?_
       simp only[go_sem,c0,b0,b1,b2]
       first | (unfold zl;simp only[ze,zc,zq,List.set_cons_succ,List.set_cons_zero,List.getD_cons_succ,List.getD_cons_zero]) | skip
       refine qv ht (zm hp) ?_
       simp only[go_sem,c0,b0,b1,b2,b3]
       first | (unfold zl;simp only[ze,zc,zq,List.set_cons_succ,List.set_cons_zero,List.getD_cons_succ,List.getD_cons_zero]) | skip
       refine qv ht (zm hp) ?_
       simp only[go_sem,c0,b0,b1,b2,b3,b4]
       first | (unfold zl;simp only[ze,zc,zq,List.set_cons_succ,List.set_cons_zero,List.getD_cons_succ,List.getD_cons_zero]) | skip
       refine Y5 (p':=q1) (n:=nd.kids.length) (by simpa using h3) (zm hp) fun _=>?_
       simp only[go_sem,zb hp]
       refine zP [] [(0,[5]),(0,[5]),(0,[]),(3,[5]),(0,[]),(3,[7]),(0,[]),(1,[8])] mixed rfl ?_
       simp only[go_sem,zy,zu,zw,zt,zr,zG,zH,zx,zh,qK]
       refine⟨_,_,Kk hT he _ _ _ h4 _ _ (zm hp) ⟨rfl,rfl⟩,?_⟩
       simp only[go_sem,zy,zu,zw,zt,zr,zG,zH,zx,zh,zb hp]
       rw[zL]
       refine⟨.slice .full 6 [zJ x],?_,?_⟩
       ·simp only[go_sem]
        exact⟨⟨[],by simp⟩,qb _ _ (.inr rfl) _ [_],.inl rfl⟩
       simp only[go_sem,zy,zu,zw,zt,zr,zG,zH,zx,zh]
       refine⟨_,_,⟨Tryz.app6 (by omega),rfl,rfl⟩,?_⟩
       simp only[go_sem]
       refine⟨m,_,by omega,?_,nd.addKid x,q2,k+1,_,hl,by rw[qc];simp;omega,by rw[qs];exact hnm,rfl,by rw[qV,qU,Zq,Zp,qc,List.map_append];rfl⟩
       repeat (first | exact zj | refine zk _ ?_ | refine zg _ ?_ | refine zf _ ?_)
      | false =>
       simp only[b0,b1,b2,b3,b4,Bool.or_false] at hb
       subst hb
       simp only[Bool.false_eq_true,if_false,Option.some.injEq,Prod.mk.injEq] at hl
       obtain⟨rfl,rfl⟩:=hl
       unfold qw qK
       simp only[go_sem,c0]
       refine ZB ht (zm hp) ?_
       simp only[go_sem,c0,b0]
       first | (unfold zl;simp only[ze,zc,zq,List.set_cons_succ,List.set_cons_zero,List.getD_cons_succ,List.getD_cons_zero]) | skip
       refine ZB ht (zm hp) ?_
       simp only[go_sem,c0,b0,b1]
       first | (unfold zl;simp only[ze,zc,zq,List.set_cons_succ,List.set_cons_zero,List.getD_cons_succ,List.getD_cons_zero]) | skip
       refine qv ht (zm hp) ?_
       simp only[go_sem,c0,b0,b1,b2]
       first | (unfold zl;simp only[ze,zc,zq,List.set_cons_succ,List.set_cons_zero,List.getD_cons_succ,List.getD_cons_zero]) | skip
       refine qv ht (zm hp) ?_
       simp only[go_sem,c0,b0,b1,b2,b3]
       first | (unfold zl;simp only[ze,zc,zq,List.set_cons_succ,List.set_cons_zero,List.getD_cons_succ,List.getD_cons_zero]) | skip
       refine qv ht (zm hp) ?_
       simp only[go_sem,c0,b0,b1,b2,b3,b4]
       exact Vj hk hnm
 ·have c0:(t0.kind==4)=false:=by simp[hc]
  rw[c0] at h
  simp only[WY,Bool.false_eq_true,if_false,Option.some.injEq,Prod.mk.injEq] at h
  obtain⟨rfl,rfl⟩:=h
  simp only[go_sem]
  refine qv h1 (zI hp) ?_
  simp only[go_sem,c0]
  refine Kk hT he _ _ _ h2 _ _ (zI hp) ?_
  simp only[go_sem,zb hp]
  refine zN [] (fun m env s=>env=[.ptr pid 0,.any,.ptr st.length 0,.sc (.bool (t0.kind==4)),.ptr (st.length+1) 0,.any,.any,.any,.any,.any,.any,.any,.any,.any,.any,.any,.any,.any,.any,.any,.any,.any,.any,.any,.any,.any,.any,.any,.any,.any,.any,.any,.any,.any,.any,.any,.any,.any,.any,.any,.any,.any,.any,.any,.any,.any,.any,.any,.any,.any,.any] ∧
   s=st.set pid (.cells (Z9 T p1))++[.cells qK,.cells (zJ n0).cells]) (n:=1) ?_ ⟨rfl,rfl⟩ ?_
  ·repeat (first | exact zj | refine zk _ ?_ | refine zg _ ?_ | refine zf _ ?_)
  rintro m env s ⟨rfl,rfl⟩
  unfold qK
  simp only[go_sem,c0]
  exact Zw hk
end Go.Proofs
