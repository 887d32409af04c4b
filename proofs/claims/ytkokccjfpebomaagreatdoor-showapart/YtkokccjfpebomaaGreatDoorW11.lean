/- pat. Written by gen_w11.py. -/
import Derived.Test.YtkokccjfpebomaaGreatDoorN7
set_option maxHeartbeats 4000000
set_option linter.unusedSimpArgs false
set_option linter.unusedVariables false
set_option maxRecDepth 8000
namespace Go.Proofs
open Go Go.AL
theorem zh3 {t:Tk} (h:t.kind=4) (s:Tx):isT t s=false:=by
 unfold isT;simp[h]
theorem zxM {T:List Tk} (hT:T.length≤100000) {pid:Nat} {e:PM Nd} (he:HC T pid 170 e):HC T pid 170 (zjY T e):=by
 intro p r p' h K st hp hk
 unfold zjY at h
 simp only[Option.bind_eq_some_iff,Prod.exists] at h
 obtain⟨t0,h1,n0,p1,h2,h⟩:=h
 refine zK (zC [] Tryz.func170 rfl Tryz.results170 Tryz.ntmps170 ?_)
 by_cases hc:t0.kind=4
 ·have c0:(t0.kind==4)=true:=by simp[hc]
  rw[c0] at h
  have hl0:X4 T [(1,1),(3,4),(4,5)] p=some (n0,p1):=by
   unfold Y0 at h2
   rw[h1] at h2
   simp only[Option.bind_some,Xz,Y1,h1,Option.map_some,zh3 hc,Bool.false_eq_true,if_false] at h2
   exact h2
  have hnm0:=YG hl0
  simp only[go_sem]
  refine qp h1 (zG hp) ?_
  simp only[go_sem,c0]
  refine zjp hT h1 (zh3 hc _) (zh3 hc _) hl0 (zG hp) ?_
  rw[zhc hnm0]
  simp only[go_sem,za hp]
  refine ZU (st.length+1) 5 6 0 (qY 1) (by simp) rfl ?_
  rw[Qi]
  simp only[List.length_append,Q9,List.length_cons,List.length_nil,List.set_cons_succ,List.set_cons_zero,List.append_assoc,List.cons_append,List.nil_append,Nat.zero_add,Nat.reduceAdd]
  refine zM [] (fun m env s=>∃ (nd:Nd) (q:PS) (k:Nat) (ex:St),zbM T e m true nd q=some (r,p')∧m+nd.kids.length≤T.length+2∧nd.names=[]∧env=[.ptr pid 0,.any,.ptr st.length 0,.sc (.bool (t0.kind==4)),.ptr (st.length+1) 0,.any,.any,.any,.any,.any,.any,.any,.any,.any,.any,.any,.any,.any,.any,.any,.any,.any,.any,.any,.any,.any,.any,.any,.any,.any,.any,.any,.any,.any,.any,.any,.any,.any,.any,.any,.any,.any,.any,.any,.any,.any,.any,.any,.any,.any,.any] ∧
   s=st.set pid (.cells (ZX T q))++(.cells qD :: .cells (qq (st.length+2) k nd) :: .tok k::ex)) (n:=T.length+2) ?_ ⟨n0,_,0,[],h,by rw[hnm0.2];simp,hnm0.1,rfl,by unfold qq;rw[hnm0.2];rfl⟩ ?_
  ·repeat (first | exact zi | refine zh _ ?_ | refine zf _ ?_ | refine ze _ ?_)
  rintro m env s ⟨nd,q,k,ex,hl,hm,hnm,rfl,rfl⟩
  cases m with
  | zero=>cases hl
  | succ m =>
  simp only[zbM,if_true,Option.bind_eq_some_iff] at hl
  obtain⟨b,hb,hl⟩:=hl
  unfold zaR at hb
  rw[Option.map_eq_some_iff] at hb
  obtain⟨t,ht,hb⟩:=hb
  cases b0:isT t [95] with
  | true =>
   simp only[b0,Bool.true_or,Bool.or_true] at hb
   subst hb
   simp only[if_true,Option.bind_eq_some_iff,Prod.exists] at hl
   obtain⟨q1,h3,x,q2,h4,hl⟩:=hl
   unfold qq
   simp only[go_sem,c0]
   refine Zs ht (zl hp) ?_
   simp only[go_sem,c0,b0]
   first | (unfold zk;simp only[zd,zb,zo,List.set_cons_succ,List.set_cons_zero,List.getD_cons_succ,List.getD_cons_zero]) | skip
   refine YD (p':=q1) (n:=nd.kids.length) (by simpa using h3) (zl hp) fun _=>?_
   simp only[go_sem,za hp]
   refine zO [] [(0,[5]),(0,[5]),(0,[]),(3,[5]),(0,[]),(3,[7]),(0,[]),(1,[8])] Tryz.mixed rfl ?_
   simp only[go_sem,zw,zt,zr,zp,zq,zE,zF,zu,zg,qD]
   refine⟨_,_,zaG hT he _ _ _ h4 _ _ (zl hp) ⟨rfl,rfl⟩,?_⟩
   simp only[go_sem,zw,zt,zr,zp,zq,zE,zF,zu,zg,za hp]
   rw[zJ]
   refine⟨.slice .full 6 [zH x],?_,?_⟩
   ·simp only[go_sem]
    exact⟨⟨[],by simp⟩,zY _ _ (.inr rfl) _ [_],.inl rfl⟩
   simp only[go_sem,zw,zt,zr,zp,zq,zE,zF,zu,zg]
   refine⟨_,_,⟨Tryz.app6 (by omega),rfl,rfl⟩,?_⟩
   simp only[go_sem]
   refine⟨m,_,by omega,?_,nd.addKid x,q2,k+1,_,hl,by rw[z8];simp;omega,by rw[qm];exact hnm,rfl,by rw[qM,qO,Zf,Zg,z8,List.map_append];rfl⟩
   repeat (first | exact zi | refine zh _ ?_ | refine zf _ ?_ | refine ze _ ?_)
  | false =>
   cases b1:isT t [40] with
   | true =>
    simp only[b1,Bool.true_or,Bool.or_true] at hb
    subst hb
    simp only[if_true,Option.bind_eq_some_iff,Prod.exists] at hl
    obtain⟨q1,h3,x,q2,h4,hl⟩:=hl
    unfold qq
    simp only[go_sem,c0]
    refine Zs ht (zl hp) ?_
    simp only[go_sem,c0,b0]
    first | (unfold zk;simp only[zd,zb,zo,List.set_cons_succ,List.set_cons_zero,List.getD_cons_succ,List.getD_cons_zero]) | skip
    refine Zs ht (zl hp) ?_
    simp only[go_sem,c0,b0,b1]
    first | (unfold zk;simp only[zd,zb,zo,List.set_cons_succ,List.set_cons_zero,List.getD_cons_succ,List.getD_cons_zero]) | skip
    refine YD (p':=q1) (n:=nd.kids.length) (by simpa using h3) (zl hp) fun _=>?_
    simp only[go_sem,za hp]
    refine zO [] [(0,[5]),(0,[5]),(0,[]),(3,[5]),(0,[]),(3,[7]),(0,[]),(1,[8])] Tryz.mixed rfl ?_
    simp only[go_sem,zw,zt,zr,zp,zq,zE,zF,zu,zg,qD]
    refine⟨_,_,zaG hT he _ _ _ h4 _ _ (zl hp) ⟨rfl,rfl⟩,?_⟩
    simp only[go_sem,zw,zt,zr,zp,zq,zE,zF,zu,zg,za hp]
    rw[zJ]
    refine⟨.slice .full 6 [zH x],?_,?_⟩
    ·simp only[go_sem]
     exact⟨⟨[],by simp⟩,zY _ _ (.inr rfl) _ [_],.inl rfl⟩
    simp only[go_sem,zw,zt,zr,zp,zq,zE,zF,zu,zg]
    refine⟨_,_,⟨Tryz.app6 (by omega),rfl,rfl⟩,?_⟩
    simp only[go_sem]
    refine⟨m,_,by omega,?_,nd.addKid x,q2,k+1,_,hl,by rw[z8];simp;omega,by rw[qm];exact hnm,rfl,by rw[qM,qO,Zf,Zg,z8,List.map_append];rfl⟩
    repeat (first | exact zi | refine zh _ ?_ | refine zf _ ?_ | refine ze _ ?_)
   | false =>
    cases b2:(t.kind==3) with
    | true =>
     simp only[b2,Bool.true_or,Bool.or_true] at hb
     subst hb
     simp only[if_true,Option.bind_eq_some_iff,Prod.exists] at hl
     obtain⟨q1,h3,x,q2,h4,hl⟩:=hl
     unfold qq
     simp only[go_sem,c0]
     refine Zs ht (zl hp) ?_
     simp only[go_sem,c0,b0]
     first | (unfold zk;simp only[zd,zb,zo,List.set_cons_succ,List.set_cons_zero,List.getD_cons_succ,List.getD_cons_zero]) | skip
     refine Zs ht (zl hp) ?_
     simp only[go_sem,c0,b0,b1]
     first | (unfold zk;simp only[zd,zb,zo,List.set_cons_succ,List.set_cons_zero,List.getD_cons_succ,List.getD_cons_zero]) | skip
     refine qp ht (zl hp) ?_
     simp only[go_sem,c0,b0,b1,b2]
     first | (unfold zk;simp only[zd,zb,zo,List.set_cons_succ,List.set_cons_zero,List.getD_cons_succ,List.getD_cons_zero]) | skip
     refine YD (p':=q1) (n:=nd.kids.length) (by simpa using h3) (zl hp) fun _=>?_
     simp only[go_sem,za hp]
     refine zO [] [(0,[5]),(0,[5]),(0,[]),(3,[5]),(0,[]),(3,[7]),(0,[]),(1,[8])] Tryz.mixed rfl ?_
     simp only[go_sem,zw,zt,zr,zp,zq,zE,zF,zu,zg,qD]
     refine⟨_,_,zaG hT he _ _ _ h4 _ _ (zl hp) ⟨rfl,rfl⟩,?_⟩
     simp only[go_sem,zw,zt,zr,zp,zq,zE,zF,zu,zg,za hp]
     rw[zJ]
     refine⟨.slice .full 6 [zH x],?_,?_⟩
     ·simp only[go_sem]
      exact⟨⟨[],by simp⟩,zY _ _ (.inr rfl) _ [_],.inl rfl⟩
     simp only[go_sem,zw,zt,zr,zp,zq,zE,zF,zu,zg]
     refine⟨_,_,⟨Tryz.app6 (by omega),rfl,rfl⟩,?_⟩
     simp only[go_sem]
     refine⟨m,_,by omega,?_,nd.addKid x,q2,k+1,_,hl,by rw[z8];simp;omega,by rw[qm];exact hnm,rfl,by rw[qM,qO,Zf,Zg,z8,List.map_append];rfl⟩
     repeat (first | exact zi | refine zh _ ?_ | refine zf _ ?_ | refine ze _ ?_)
    | false =>
     cases b3:(t.kind==1) with
     | true =>
      simp only[b3,Bool.true_or,Bool.or_true] at hb
      subst hb
      simp only[if_true,Option.bind_eq_some_iff,Prod.exists] at hl
      obtain⟨q1,h3,x,q2,h4,hl⟩:=hl
      unfold qq
      simp only[go_sem,c0]
      refine Zs ht (zl hp) ?_
      simp only[go_sem,c0,b0]
      first | (unfold zk;simp only[zd,zb,zo,List.set_cons_succ,List.set_cons_zero,List.getD_cons_succ,List.getD_cons_zero]) | skip
      refine Zs ht (zl hp) ?_
      simp only[go_sem,c0,b0,b1]
      first | (unfold zk;simp only[zd,zb,zo,List.set_cons_succ,List.set_cons_zero,List.getD_cons_succ,List.getD_cons_zero]) | skip
      refine qp ht (zl hp) ?_
      simp only[go_sem,c0,b0,b1,b2]
      first | (unfold zk;simp only[zd,zb,zo,List.set_cons_succ,List.set_cons_zero,List.getD_cons_succ,List.getD_cons_zero]) | skip
      refine qp ht (zl hp) ?_
      simp only[go_sem,c0,b0,b1,b2,b3]
      first | (unfold zk;simp only[zd,zb,zo,List.set_cons_succ,List.set_cons_zero,List.getD_cons_succ,List.getD_cons_zero]) | skip
      refine YD (p':=q1) (n:=nd.kids.length) (by simpa using h3) (zl hp) fun _=>?_
      simp only[go_sem,za hp]
      refine zO [] [(0,[5]),(0,[5]),(0,[]),(3,[5]),(0,[]),(3,[7]),(0,[]),(1,[8])] Tryz.mixed rfl ?_
      simp only[go_sem,zw,zt,zr,zp,zq,zE,zF,zu,zg,qD]
      refine⟨_,_,zaG hT he _ _ _ h4 _ _ (zl hp) ⟨rfl,rfl⟩,?_⟩
      simp only[go_sem,zw,zt,zr,zp,zq,zE,zF,zu,zg,za hp]
      rw[zJ]
      refine⟨.slice .full 6 [zH x],?_,?_⟩
      ·simp only[go_sem]
       exact⟨⟨[],by simp⟩,zY _ _ (.inr rfl) _ [_],.inl rfl⟩
      simp only[go_sem,zw,zt,zr,zp,zq,zE,zF,zu,zg]
      refine⟨_,_,⟨Tryz.app6 (by omega),rfl,rfl⟩,?_⟩
      simp only[go_sem]
      refine⟨m,_,by omega,?_,nd.addKid x,q2,k+1,_,hl,by rw[z8];simp;omega,by rw[qm];exact hnm,rfl,by rw[qM,qO,Zf,Zg,z8,List.map_append];rfl⟩
      repeat (first | exact zi | refine zh _ ?_ | refine zf _ ?_ | refine ze _ ?_)
     | false =>
      cases b4:(t.kind==4) with
      | true =>
       simp only[b4,Bool.true_or,Bool.or_true] at hb
       subst hb
       simp only[if_true,Option.bind_eq_some_iff,Prod.exists] at hl
       obtain⟨q1,h3,x,q2,h4,hl⟩:=hl
       unfold qq
       simp only[go_sem,c0]
       refine Zs ht (zl hp) ?_
       simp only[go_sem,c0,b0]
       first | (unfold zk;simp only[zd,zb,zo,List.set_cons_succ,List.set_cons_zero,List.getD_cons_succ,List.getD_cons_zero]) | skip
       refine Zs ht (zl hp) ?_
       simp only[go_sem,c0,b0,b1]
       first | (unfold zk;simp only[zd,zb,zo,List.set_cons_succ,List.set_cons_zero,List.getD_cons_succ,List.getD_cons_zero]) | skip
       refine qp ht (zl hp) ?_
       simp only[go_sem,c0,b0,b1,b2]
       first | (unfold zk;simp only[zd,zb,zo,List.set_cons_succ,List.set_cons_zero,List.getD_cons_succ,List.getD_cons_zero]) | skip
       refine qp ht (zl hp) ?_
       simp only[go_sem,c0,b0,b1,b2,b3]
       first | (unfold zk;simp only[zd,zb,zo,List.set_cons_succ,List.set_cons_zero,List.getD_cons_succ,List.getD_cons_zero]) | skip
       refine qp ht (zl hp) ?_
       simp only[go_sem,c0,b0,b1,b2,b3,b4]
       first | (unfold zk;simp only[zd,zb,zo,List.set_cons_succ,List.set_cons_zero,List.getD_cons_succ,List.getD_cons_zero]) | skip
       refine YD (p':=q1) (n:=nd.kids.length) (by simpa using h3) (zl hp) fun _=>?_
       simp only[go_sem,za hp]
       refine zO [] [(0,[5]),(0,[5]),(0,[]),(3,[5]),(0,[]),(3,[7]),(0,[]),(1,[8])] Tryz.mixed rfl ?_
       simp only[go_sem,zw,zt,zr,zp,zq,zE,zF,zu,zg,qD]
       refine⟨_,_,zaG hT he _ _ _ h4 _ _ (zl hp) ⟨rfl,rfl⟩,?_⟩
       simp only[go_sem,zw,zt,zr,zp,zq,zE,zF,zu,zg,za hp]
       rw[zJ]
       refine⟨.slice .full 6 [zH x],?_,?_⟩
       ·simp only[go_sem]
        exact⟨⟨[],by simp⟩,zY _ _ (.inr rfl) _ [_],.inl rfl⟩
       simp only[go_sem,zw,zt,zr,zp,zq,zE,zF,zu,zg]
       refine⟨_,_,⟨Tryz.app6 (by omega),rfl,rfl⟩,?_⟩
       simp only[go_sem]
       refine⟨m,_,by omega,?_,nd.addKid x,q2,k+1,_,hl,by rw[z8];simp;omega,by rw[qm];exact hnm,rfl,by rw[qM,qO,Zf,Zg,z8,List.map_append];rfl⟩
       repeat (first | exact zi | refine zh _ ?_ | refine zf _ ?_ | refine ze _ ?_)
      | false =>
       simp only[b0,b1,b2,b3,b4,Bool.or_false] at hb
       subst hb
       simp only[Bool.false_eq_true,if_false,Option.some.injEq,Prod.mk.injEq] at hl
       obtain⟨rfl,rfl⟩:=hl
       unfold qq qD
       simp only[go_sem,c0]
       refine Zs ht (zl hp) ?_
       simp only[go_sem,c0,b0]
       first | (unfold zk;simp only[zd,zb,zo,List.set_cons_succ,List.set_cons_zero,List.getD_cons_succ,List.getD_cons_zero]) | skip
       refine Zs ht (zl hp) ?_
       simp only[go_sem,c0,b0,b1]
       first | (unfold zk;simp only[zd,zb,zo,List.set_cons_succ,List.set_cons_zero,List.getD_cons_succ,List.getD_cons_zero]) | skip
       refine qp ht (zl hp) ?_
       simp only[go_sem,c0,b0,b1,b2]
       first | (unfold zk;simp only[zd,zb,zo,List.set_cons_succ,List.set_cons_zero,List.getD_cons_succ,List.getD_cons_zero]) | skip
       refine qp ht (zl hp) ?_
       simp only[go_sem,c0,b0,b1,b2,b3]
       first | (unfold zk;simp only[zd,zb,zo,List.set_cons_succ,List.set_cons_zero,List.getD_cons_succ,List.getD_cons_zero]) | skip
       refine qp ht (zl hp) ?_
       simp only[go_sem,c0,b0,b1,b2,b3,b4]
       exact JT hk hnm
 ·have c0:(t0.kind==4)=false:=by simp[hc]
  rw[c0] at h
  simp only[zbM,Bool.false_eq_true,if_false,Option.some.injEq,Prod.mk.injEq] at h
  obtain⟨rfl,rfl⟩:=h
  simp only[go_sem]
  refine qp h1 (zG hp) ?_
  simp only[go_sem,c0]
  refine zaG hT he _ _ _ h2 _ _ (zG hp) ?_
  simp only[go_sem,za hp]
  refine zM [] (fun m env s=>env=[.ptr pid 0,.any,.ptr st.length 0,.sc (.bool (t0.kind==4)),.ptr (st.length+1) 0,.any,.any,.any,.any,.any,.any,.any,.any,.any,.any,.any,.any,.any,.any,.any,.any,.any,.any,.any,.any,.any,.any,.any,.any,.any,.any,.any,.any,.any,.any,.any,.any,.any,.any,.any,.any,.any,.any,.any,.any,.any,.any,.any,.any,.any,.any] ∧
   s=st.set pid (.cells (ZX T p1))++[.cells qD,.cells (zH n0).cells]) (n:=1) ?_ ⟨rfl,rfl⟩ ?_
  ·repeat (first | exact zi | refine zh _ ?_ | refine zf _ ?_ | refine ze _ ?_)
  rintro m env s ⟨rfl,rfl⟩
  unfold qD
  simp only[go_sem,c0]
  exact Zk hk
end Go.Proofs
