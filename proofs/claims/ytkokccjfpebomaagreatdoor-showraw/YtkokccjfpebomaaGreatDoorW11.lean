/- pat. Written by gen_w11.py. -/
import Derived.Test.YtkokccjfpebomaaGreatDoorN7
set_option linter.all false
set_option maxHeartbeats 4000000
set_option maxRecDepth 8000
namespace Go.Proofs
open Go Go.AL Tryz
theorem wd{t:Tk}(h:t.kind=4)(s:Tx):isT t s=false:=by
 unfold isT;simp[h]
theorem MX{T:List Tk}(hT:T.length≤100000){pid:Nat}{e:PM Nd}(he:HC T pid 170 e):HC T pid 170 (HW T e):=by
 intro p r p' h K st hp hk;unfold HW at h;simp only[xoB,xpX] at h;obtain⟨t0,h1,n0,p1,h2,h⟩:=h;refine zA (zp [] func170 rfl results170 ntmps170 ?_);by_cases hc:t0.kind=4
 ·have c0:(t0.kind==4)=true:=by simp[hc]
  rw[c0] at h;have hl0:Xc T [(1,1),(3,4),(4,5)] p=some (n0,p1):=by
   unfold Qo at h2;rw[h1] at h2;simp only[xbS,Xd,Yj,h1,xmS,wd hc,XU,if_false] at h2;exact h2
  have hnm0:=Jt hl0;simp only[go_sem];refine qi h1 (zu hp) ?_;simp only[go_sem,c0];refine vO hT h1 (wd hc _) (wd hc _) hl0 (zu hp) ?_;rw[L5 hnm0];simp only[go_sem,zb hp];refine ZS (st.length+1) 5 6 0 (Zi 1) (by simp) rfl ?_;rw[QK];simp only[xlA,XG,xlC,xlN,xsS,xsZ,xaA,xcA,xnA,Nat.zero_add,Nat.reduceAdd];refine zx [] (fun m env s=>∃ (nd:Nd) (q:PS) (k:Nat) (ex:St),JO T e m true nd q=some (r,p')∧m+nd.kids.length≤T.length+2∧nd.names=[]∧env=[.ptr pid 0,.any,.ptr st.length 0,.sc (.bool (t0.kind==4)),.ptr (st.length+1) 0,.any,.any,.any,.any,.any,.any,.any,.any,.any,.any,.any,.any,.any,.any,.any,.any,.any,.any,.any,.any,.any,.any,.any,.any,.any,.any,.any,.any,.any,.any,.any,.any,.any,.any,.any,.any,.any,.any,.any,.any,.any,.any,.any,.any,.any,.any] ∧
   s=st.set pid (.cells (Qn T q))++(.cells qv :: .cells (qk (st.length+2) k nd) :: .tok k::ex)) (n:=T.length+2) ?_ ⟨n0,_,0,[],h,by rw[hnm0.2];simp,hnm0.1,rfl,by unfold qk;rw[hnm0.2];rfl⟩ ?_
  ·exact qu
  rintro m env s ⟨nd,q,k,ex,hl,hm,hnm,rfl,rfl⟩;cases m with
  | zero=>cases hl
  | succ m =>
  simp only[JO,if_true,xoB] at hl;obtain⟨b,hb,hl⟩:=hl;unfold VV at hb;rw[xoM] at hb;obtain⟨t,ht,hb⟩:=hb;cases b0:isT t [95] with
  | true =>
   simp only[b0,Bool.true_or,Bool.or_true] at hb;subst hb;simp only[if_true,xoB,xpX] at hl;obtain⟨q1,h3,x,q2,h4,hl⟩:=hl;unfold qk;simp only[go_sem,c0];refine ZG ht (zh hp) ?_;simp only[go_sem,c0,b0];first | (unfold zf;simp only[ze,zc,zl,xsS,xsZ,xgS,xgZ]) | skip
   refine Jq (p':=q1) (n:=nd.kids.length) (by simpa using h3) (zh hp) fun _=>?_;simp only[go_sem,zb hp];refine zB [] [(0,[5]),(0,[5]),(0,[]),(3,[5]),(0,[]),(3,[7]),(0,[]),(1,[8])] mixed rfl ?_;simp only[go_sem,qv];refine⟨_,_,Ui hT he _ _ _ h4 _ _ (zh hp) ⟨rfl,rfl⟩,?_⟩;simp only[go_sem,zb hp];rw[zt];refine⟨.slice .full 6 [zq x],?_,?_⟩
   ·simp only[go_sem];exact⟨⟨[],by simp⟩,zM _ _ (.inr rfl) _ [_],.inl rfl⟩
   simp only[go_sem];refine⟨_,_,⟨Tryz.app6 (by omega),rfl,rfl⟩,?_⟩;simp only[go_sem];refine⟨m,_,by omega,?_,nd.addKid x,q2,k+1,_,hl,by rw[zQ];simp;omega,by rw[qh];exact hnm,rfl,by rw[qV,qT,Zv,Zu,zQ,xmA];rfl⟩;exact qu
  | false =>
   cases b1:isT t [40] with
   | true =>
    simp only[b1,Bool.true_or,Bool.or_true] at hb;subst hb;simp only[if_true,xoB,xpX] at hl;obtain⟨q1,h3,x,q2,h4,hl⟩:=hl;unfold qk;simp only[go_sem,c0];refine ZG ht (zh hp) ?_;simp only[go_sem,c0,b0];first | (unfold zf;simp only[ze,zc,zl,xsS,xsZ,xgS,xgZ]) | skip
    refine ZG ht (zh hp) ?_;simp only[go_sem,c0,b0,b1];first | (unfold zf;simp only[ze,zc,zl,xsS,xsZ,xgS,xgZ]) | skip
    refine Jq (p':=q1) (n:=nd.kids.length) (by simpa using h3) (zh hp) fun _=>?_;simp only[go_sem,zb hp];refine zB [] [(0,[5]),(0,[5]),(0,[]),(3,[5]),(0,[]),(3,[7]),(0,[]),(1,[8])] mixed rfl ?_;simp only[go_sem,qv];refine⟨_,_,Ui hT he _ _ _ h4 _ _ (zh hp) ⟨rfl,rfl⟩,?_⟩;simp only[go_sem,zb hp];rw[zt];refine⟨.slice .full 6 [zq x],?_,?_⟩
    ·simp only[go_sem];exact⟨⟨[],by simp⟩,zM _ _ (.inr rfl) _ [_],.inl rfl⟩
    simp only[go_sem];refine⟨_,_,⟨Tryz.app6 (by omega),rfl,rfl⟩,?_⟩;simp only[go_sem];refine⟨m,_,by omega,?_,nd.addKid x,q2,k+1,_,hl,by rw[zQ];simp;omega,by rw[qh];exact hnm,rfl,by rw[qV,qT,Zv,Zu,zQ,xmA];rfl⟩;exact qu
   | false =>
    cases b2:(t.kind==3) with
    | true =>
     simp only[b2,Bool.true_or,Bool.or_true] at hb;subst hb;simp only[if_true,xoB,xpX] at hl;obtain⟨q1,h3,x,q2,h4,hl⟩:=hl;unfold qk;simp only[go_sem,c0];refine ZG ht (zh hp) ?_;simp only[go_sem,c0,b0];first | (unfold zf;simp only[ze,zc,zl,xsS,xsZ,xgS,xgZ]) | skip
     refine ZG ht (zh hp) ?_;simp only[go_sem,c0,b0,b1];first | (unfold zf;simp only[ze,zc,zl,xsS,xsZ,xgS,xgZ]) | skip
     refine qi ht (zh hp) ?_;simp only[go_sem,c0,b0,b1,b2];first | (unfold zf;simp only[ze,zc,zl,xsS,xsZ,xgS,xgZ]) | skip
     refine Jq (p':=q1) (n:=nd.kids.length) (by simpa using h3) (zh hp) fun _=>?_;simp only[go_sem,zb hp];refine zB [] [(0,[5]),(0,[5]),(0,[]),(3,[5]),(0,[]),(3,[7]),(0,[]),(1,[8])] mixed rfl ?_;simp only[go_sem,qv];refine⟨_,_,Ui hT he _ _ _ h4 _ _ (zh hp) ⟨rfl,rfl⟩,?_⟩;simp only[go_sem,zb hp];rw[zt];refine⟨.slice .full 6 [zq x],?_,?_⟩
     ·simp only[go_sem];exact⟨⟨[],by simp⟩,zM _ _ (.inr rfl) _ [_],.inl rfl⟩
     simp only[go_sem];refine⟨_,_,⟨Tryz.app6 (by omega),rfl,rfl⟩,?_⟩;simp only[go_sem];refine⟨m,_,by omega,?_,nd.addKid x,q2,k+1,_,hl,by rw[zQ];simp;omega,by rw[qh];exact hnm,rfl,by rw[qV,qT,Zv,Zu,zQ,xmA];rfl⟩;exact qu
    | false =>
     cases b3:(t.kind==1) with
     | true =>
      simp only[b3,Bool.true_or,Bool.or_true] at hb;subst hb;simp only[if_true,xoB,xpX] at hl;obtain⟨q1,h3,x,q2,h4,hl⟩:=hl;unfold qk;simp only[go_sem,c0];refine ZG ht (zh hp) ?_;simp only[go_sem,c0,b0];first | (unfold zf;simp only[ze,zc,zl,xsS,xsZ,xgS,xgZ]) | skip
      refine ZG ht (zh hp) ?_;simp only[go_sem,c0,b0,b1];first | (unfold zf;simp only[ze,zc,zl,xsS,xsZ,xgS,xgZ]) | skip
      refine qi ht (zh hp) ?_;simp only[go_sem,c0,b0,b1,b2];first | (unfold zf;simp only[ze,zc,zl,xsS,xsZ,xgS,xgZ]) | skip
      refine qi ht (zh hp) ?_;simp only[go_sem,c0,b0,b1,b2,b3];first | (unfold zf;simp only[ze,zc,zl,xsS,xsZ,xgS,xgZ]) | skip
      refine Jq (p':=q1) (n:=nd.kids.length) (by simpa using h3) (zh hp) fun _=>?_;simp only[go_sem,zb hp];refine zB [] [(0,[5]),(0,[5]),(0,[]),(3,[5]),(0,[]),(3,[7]),(0,[]),(1,[8])] mixed rfl ?_;simp only[go_sem,qv];refine⟨_,_,Ui hT he _ _ _ h4 _ _ (zh hp) ⟨rfl,rfl⟩,?_⟩;simp only[go_sem,zb hp];rw[zt];refine⟨.slice .full 6 [zq x],?_,?_⟩
      ·simp only[go_sem];exact⟨⟨[],by simp⟩,zM _ _ (.inr rfl) _ [_],.inl rfl⟩
      simp only[go_sem];refine⟨_,_,⟨Tryz.app6 (by omega),rfl,rfl⟩,?_⟩;simp only[go_sem];refine⟨m,_,by omega,?_,nd.addKid x,q2,k+1,_,hl,by rw[zQ];simp;omega,by rw[qh];exact hnm,rfl,by rw[qV,qT,Zv,Zu,zQ,xmA];rfl⟩;exact qu
     | false =>
      cases b4:(t.kind==4) with
      | true =>
       simp only[b4,Bool.true_or,Bool.or_true] at hb;subst hb;simp only[if_true,xoB,xpX] at hl;obtain⟨q1,h3,x,q2,h4,hl⟩:=hl;unfold qk;simp only[go_sem,c0];refine ZG ht (zh hp) ?_;simp only[go_sem,c0,b0];first | (unfold zf;simp only[ze,zc,zl,xsS,xsZ,xgS,xgZ]) | skip
       refine ZG ht (zh hp) ?_;simp only[go_sem,c0,b0,b1];first | (unfold zf;simp only[ze,zc,zl,xsS,xsZ,xgS,xgZ]) | skip
       refine qi ht (zh hp) ?_;simp only[go_sem,c0,b0,b1,b2];first | (unfold zf;simp only[ze,zc,zl,xsS,xsZ,xgS,xgZ]) | skip
       refine qi ht (zh hp) ?_;simp only[go_sem,c0,b0,b1,b2,b3];first | (unfold zf;simp only[ze,zc,zl,xsS,xsZ,xgS,xgZ]) | skip
       refine qi ht (zh hp) ?_;simp only[go_sem,c0,b0,b1,b2,b3,b4];first | (unfold zf;simp only[ze,zc,zl,xsS,xsZ,xgS,xgZ]) | skip
       refine Jq (p':=q1) (n:=nd.kids.length) (by simpa using h3) (zh hp) fun _=>?_;simp only[go_sem,zb hp];refine zB [] [(0,[5]),(0,[5]),(0,[]),(3,[5]),(0,[]),(3,[7]),(0,[]),(1,[8])] mixed rfl ?_;simp only[go_sem,qv];refine⟨_,_,Ui hT he _ _ _ h4 _ _ (zh hp) ⟨rfl,rfl⟩,?_⟩;simp only[go_sem,zb hp];rw[zt];refine⟨.slice .full 6 [zq x],?_,?_⟩
       ·simp only[go_sem];exact⟨⟨[],by simp⟩,zM _ _ (.inr rfl) _ [_],.inl rfl⟩
       simp only[go_sem];refine⟨_,_,⟨Tryz.app6 (by omega),rfl,rfl⟩,?_⟩;simp only[go_sem];refine⟨m,_,by omega,?_,nd.addKid x,q2,k+1,_,hl,by rw[zQ];simp;omega,by rw[qh];exact hnm,rfl,by rw[qV,qT,Zv,Zu,zQ,xmA];rfl⟩;exact qu
      | false =>
       simp only[b0,b1,b2,b3,b4,Bool.or_false] at hb;subst hb;simp only[XU,if_false,xsJ,xpJ] at hl;obtain⟨rfl,rfl⟩:=hl;unfold qk qv;simp only[go_sem,c0];refine ZG ht (zh hp) ?_;simp only[go_sem,c0,b0];first | (unfold zf;simp only[ze,zc,zl,xsS,xsZ,xgS,xgZ]) | skip
       refine ZG ht (zh hp) ?_;simp only[go_sem,c0,b0,b1];first | (unfold zf;simp only[ze,zc,zl,xsS,xsZ,xgS,xgZ]) | skip
       refine qi ht (zh hp) ?_;simp only[go_sem,c0,b0,b1,b2];first | (unfold zf;simp only[ze,zc,zl,xsS,xsZ,xgS,xgZ]) | skip
       refine qi ht (zh hp) ?_;simp only[go_sem,c0,b0,b1,b2,b3];first | (unfold zf;simp only[ze,zc,zl,xsS,xsZ,xgS,xgZ]) | skip
       refine qi ht (zh hp) ?_;simp only[go_sem,c0,b0,b1,b2,b3,b4];exact V1 hk hnm
 ·have c0:(t0.kind==4)=false:=by simp[hc]
  rw[c0] at h;simp only[JO,XU,if_false,xsJ,xpJ] at h;obtain⟨rfl,rfl⟩:=h;simp only[go_sem];refine qi h1 (zu hp) ?_;simp only[go_sem,c0];refine Ui hT he _ _ _ h2 _ _ (zu hp) ?_;simp only[go_sem,zb hp];refine zx [] (fun m env s=>env=[.ptr pid 0,.any,.ptr st.length 0,.sc (.bool (t0.kind==4)),.ptr (st.length+1) 0,.any,.any,.any,.any,.any,.any,.any,.any,.any,.any,.any,.any,.any,.any,.any,.any,.any,.any,.any,.any,.any,.any,.any,.any,.any,.any,.any,.any,.any,.any,.any,.any,.any,.any,.any,.any,.any,.any,.any,.any,.any,.any,.any,.any,.any,.any] ∧
   s=st.set pid (.cells (Qn T p1))++[.cells qv,.cells (zq n0).cells]) (n:=1) ?_ ⟨rfl,rfl⟩ ?_
  ·exact qu
  rintro m env s ⟨rfl,rfl⟩;unfold qv;simp only[go_sem,c0];exact Zw hk
end Go.Proofs
