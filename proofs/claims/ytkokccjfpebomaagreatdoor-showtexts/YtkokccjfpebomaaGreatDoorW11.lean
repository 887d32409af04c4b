/- pat. Written by gen_w11.py. -/
import Derived.Test.YtkokccjfpebomaaGreatDoorN7
set_option linter.all false
set_option maxHeartbeats 4000000
set_option maxRecDepth 8000
namespace Go.Proofs
open Go Go.AL Tryz
theorem FF{t:Tk}(h:t.kind=4)(s:Tx):isT t s=false:=by
 unfold isT;simp[h]
theorem CM{T:List Tk}(hT:T.length≤100000){pid:Nat}{e:PM Nd}(he:HC T pid 170 e):HC T pid 170 (HR T e):=by
 intro p r p' h K st hp hk;unfold HR at h;simp only[xoB,xpX] at h;obtain⟨t0,h1,n0,p1,h2,h⟩:=h;refine zw (zl [] func170 rfl results170 ntmps170 ?_);by_cases hc:t0.kind=4
 ·have c0:(t0.kind==4)=true:=by simp[hc]
  rw[c0] at h;have hl0:XC T [(1,1),(3,4),(4,5)] p=some (n0,p1):=by
   unfold QW at h2;rw[h1] at h2;simp only[xbS,Xc,Ye,h1,xmS,FF hc,Yd,if_false] at h2;exact h2
  have hnm0:=Jr hl0;simp only[go_sem];refine qd h1 (zo hp) ?_;simp only[go_sem,c0];refine wY hT h1 (FF hc _) (FF hc _) hl0 (zo hp) ?_;rw[LB hnm0];simp only[go_sem,zb hp];refine Z2 (st.length+1) 5 6 0 (Za 1) (by simp) rfl ?_;rw[Qu];simp only[xlA,Xv,xlC,xlN,xsS,xsZ,xaA,xcA,xnA,Nat.zero_add,Nat.reduceAdd];refine zt [] (fun m env s=>∃ (nd:Nd) (q:PS) (k:Nat) (ex:St),JM T e m true nd q=some (r,p')∧m+nd.kids.length≤T.length+2∧nd.names=[]∧env=(.ptr pid 0 :: .any :: .ptr st.length 0 :: .sc (.bool (t0.kind==4)) :: .ptr (st.length+1) 0 :: .any :: .any::XQ (JW (XD []))) ∧
   s=st.set pid (.cells (Qa T q))++(.cells qu :: .cells (qg (st.length+2) k nd) :: .tok k::ex)) (n:=T.length+2) ?_ ⟨n0,_,0,[],h,by rw[hnm0.2];simp,hnm0.1,rfl,by unfold qg;rw[hnm0.2];rfl⟩ ?_
  ·exact qv
  rintro m env s ⟨nd,q,k,ex,hl,hm,hnm,rfl,rfl⟩;cases m with
  | zero=>cases hl
  | succ m =>
  simp only[JM,if_true,xoB] at hl;obtain⟨b,hb,hl⟩:=hl;unfold Vx at hb;rw[xoM] at hb;obtain⟨t,ht,hb⟩:=hb;cases b0:isT t [95] with
  | true =>
   simp only[b0,Bool.true_or,Bool.or_true] at hb;subst hb;simp only[if_true,xoB,xpX] at hl;obtain⟨q1,h3,x,q2,h4,hl⟩:=hl;unfold qg;simp only[go_sem,c0];refine Zy ht (ze hp) ?_;simp only[go_sem,c0,b0];try (unfold zd;simp only[qc])
   refine Jk (p':=q1) (n:=nd.kids.length) (by simpa using h3) (ze hp) fun _=>?_;simp only[go_sem,zb hp];refine zA [] [(0,[5]),(0,[5]),(0,[]),(3,[5]),(0,[]),(3,[7]),(0,[]),(1,[8])] mixed rfl ?_;simp only[go_sem,qu];refine⟨_,_,KJ hT he _ _ _ h4 _ _ (ze hp) ⟨rfl,rfl⟩,?_⟩;simp only[go_sem,zb hp];rw[zp];refine⟨.slice .full 6 [zq x],?_,?_⟩
   ·simp only[go_sem];exact⟨⟨[],by simp⟩,zK _ _ (.inr rfl) _ [_],.inl rfl⟩
   simp only[go_sem];refine⟨_,_,⟨Tryz.app6 (by omega),rfl,rfl⟩,?_⟩;simp only[go_sem];refine⟨m,_,by omega,?_,nd.addKid x,q2,k+1,_,hl,by rw[zM];simp;omega,by rw[qb];exact hnm,rfl,by rw[qK,qI,Zo,Zn,zM,xmA];rfl⟩;exact qv
  | false =>
   cases b1:isT t [40] with
   | true =>
    simp only[b1,Bool.true_or,Bool.or_true] at hb;subst hb;simp only[if_true,xoB,xpX] at hl;obtain⟨q1,h3,x,q2,h4,hl⟩:=hl;unfold qg;simp only[go_sem,c0];refine Zy ht (ze hp) ?_;simp only[go_sem,c0,b0];try (unfold zd;simp only[qc])
    refine Zy ht (ze hp) ?_;simp only[go_sem,c0,b0,b1];try (unfold zd;simp only[qc])
    refine Jk (p':=q1) (n:=nd.kids.length) (by simpa using h3) (ze hp) fun _=>?_;simp only[go_sem,zb hp];refine zA [] [(0,[5]),(0,[5]),(0,[]),(3,[5]),(0,[]),(3,[7]),(0,[]),(1,[8])] mixed rfl ?_;simp only[go_sem,qu];refine⟨_,_,KJ hT he _ _ _ h4 _ _ (ze hp) ⟨rfl,rfl⟩,?_⟩;simp only[go_sem,zb hp];rw[zp];refine⟨.slice .full 6 [zq x],?_,?_⟩
    ·simp only[go_sem];exact⟨⟨[],by simp⟩,zK _ _ (.inr rfl) _ [_],.inl rfl⟩
    simp only[go_sem];refine⟨_,_,⟨Tryz.app6 (by omega),rfl,rfl⟩,?_⟩;simp only[go_sem];refine⟨m,_,by omega,?_,nd.addKid x,q2,k+1,_,hl,by rw[zM];simp;omega,by rw[qb];exact hnm,rfl,by rw[qK,qI,Zo,Zn,zM,xmA];rfl⟩;exact qv
   | false =>
    cases b2:(t.kind==3) with
    | true =>
     simp only[b2,Bool.true_or,Bool.or_true] at hb;subst hb;simp only[if_true,xoB,xpX] at hl;obtain⟨q1,h3,x,q2,h4,hl⟩:=hl;unfold qg;simp only[go_sem,c0];refine Zy ht (ze hp) ?_;simp only[go_sem,c0,b0];try (unfold zd;simp only[qc])
     refine Zy ht (ze hp) ?_;simp only[go_sem,c0,b0,b1];try (unfold zd;simp only[qc])
     refine qd ht (ze hp) ?_;simp only[go_sem,c0,b0,b1,b2];try (unfold zd;simp only[qc])
     refine Jk (p':=q1) (n:=nd.kids.length) (by simpa using h3) (ze hp) fun _=>?_;simp only[go_sem,zb hp];refine zA [] [(0,[5]),(0,[5]),(0,[]),(3,[5]),(0,[]),(3,[7]),(0,[]),(1,[8])] mixed rfl ?_;simp only[go_sem,qu];refine⟨_,_,KJ hT he _ _ _ h4 _ _ (ze hp) ⟨rfl,rfl⟩,?_⟩;simp only[go_sem,zb hp];rw[zp];refine⟨.slice .full 6 [zq x],?_,?_⟩
     ·simp only[go_sem];exact⟨⟨[],by simp⟩,zK _ _ (.inr rfl) _ [_],.inl rfl⟩
     simp only[go_sem];refine⟨_,_,⟨Tryz.app6 (by omega),rfl,rfl⟩,?_⟩;simp only[go_sem];refine⟨m,_,by omega,?_,nd.addKid x,q2,k+1,_,hl,by rw[zM];simp;omega,by rw[qb];exact hnm,rfl,by rw[qK,qI,Zo,Zn,zM,xmA];rfl⟩;exact qv
    | false =>
     cases b3:(t.kind==1) with
     | true =>
      simp only[b3,Bool.true_or,Bool.or_true] at hb;subst hb;simp only[if_true,xoB,xpX] at hl;obtain⟨q1,h3,x,q2,h4,hl⟩:=hl;unfold qg;simp only[go_sem,c0];refine Zy ht (ze hp) ?_;simp only[go_sem,c0,b0];try (unfold zd;simp only[qc])
      refine Zy ht (ze hp) ?_;simp only[go_sem,c0,b0,b1];try (unfold zd;simp only[qc])
      refine qd ht (ze hp) ?_;simp only[go_sem,c0,b0,b1,b2];try (unfold zd;simp only[qc])
      refine qd ht (ze hp) ?_;simp only[go_sem,c0,b0,b1,b2,b3];try (unfold zd;simp only[qc])
      refine Jk (p':=q1) (n:=nd.kids.length) (by simpa using h3) (ze hp) fun _=>?_;simp only[go_sem,zb hp];refine zA [] [(0,[5]),(0,[5]),(0,[]),(3,[5]),(0,[]),(3,[7]),(0,[]),(1,[8])] mixed rfl ?_;simp only[go_sem,qu];refine⟨_,_,KJ hT he _ _ _ h4 _ _ (ze hp) ⟨rfl,rfl⟩,?_⟩;simp only[go_sem,zb hp];rw[zp];refine⟨.slice .full 6 [zq x],?_,?_⟩
      ·simp only[go_sem];exact⟨⟨[],by simp⟩,zK _ _ (.inr rfl) _ [_],.inl rfl⟩
      simp only[go_sem];refine⟨_,_,⟨Tryz.app6 (by omega),rfl,rfl⟩,?_⟩;simp only[go_sem];refine⟨m,_,by omega,?_,nd.addKid x,q2,k+1,_,hl,by rw[zM];simp;omega,by rw[qb];exact hnm,rfl,by rw[qK,qI,Zo,Zn,zM,xmA];rfl⟩;exact qv
     | false =>
      cases b4:(t.kind==4) with
      | true =>
       simp only[b4,Bool.true_or,Bool.or_true] at hb;subst hb;simp only[if_true,xoB,xpX] at hl;obtain⟨q1,h3,x,q2,h4,hl⟩:=hl;unfold qg;simp only[go_sem,c0];refine Zy ht (ze hp) ?_;simp only[go_sem,c0,b0];try (unfold zd;simp only[qc])
       refine Zy ht (ze hp) ?_;simp only[go_sem,c0,b0,b1];try (unfold zd;simp only[qc])
       refine qd ht (ze hp) ?_;simp only[go_sem,c0,b0,b1,b2];try (unfold zd;simp only[qc])
       refine qd ht (ze hp) ?_;simp only[go_sem,c0,b0,b1,b2,b3];try (unfold zd;simp only[qc])
       refine qd ht (ze hp) ?_;simp only[go_sem,c0,b0,b1,b2,b3,b4];try (unfold zd;simp only[qc])
       refine Jk (p':=q1) (n:=nd.kids.length) (by simpa using h3) (ze hp) fun _=>?_;simp only[go_sem,zb hp];refine zA [] [(0,[5]),(0,[5]),(0,[]),(3,[5]),(0,[]),(3,[7]),(0,[]),(1,[8])] mixed rfl ?_;simp only[go_sem,qu];refine⟨_,_,KJ hT he _ _ _ h4 _ _ (ze hp) ⟨rfl,rfl⟩,?_⟩;simp only[go_sem,zb hp];rw[zp];refine⟨.slice .full 6 [zq x],?_,?_⟩
       ·simp only[go_sem];exact⟨⟨[],by simp⟩,zK _ _ (.inr rfl) _ [_],.inl rfl⟩
       simp only[go_sem];refine⟨_,_,⟨Tryz.app6 (by omega),rfl,rfl⟩,?_⟩;simp only[go_sem];refine⟨m,_,by omega,?_,nd.addKid x,q2,k+1,_,hl,by rw[zM];simp;omega,by rw[qb];exact hnm,rfl,by rw[qK,qI,Zo,Zn,zM,xmA];rfl⟩;exact qv
      | false =>
       simp only[b0,b1,b2,b3,b4,Bool.or_false] at hb;subst hb;simp only[Yd,if_false,xsJ,xpJ] at hl;obtain⟨rfl,rfl⟩:=hl;unfold qg qu;simp only[go_sem,c0];refine Zy ht (ze hp) ?_;simp only[go_sem,c0,b0];try (unfold zd;simp only[qc])
       refine Zy ht (ze hp) ?_;simp only[go_sem,c0,b0,b1];try (unfold zd;simp only[qc])
       refine qd ht (ze hp) ?_;simp only[go_sem,c0,b0,b1,b2];try (unfold zd;simp only[qc])
       refine qd ht (ze hp) ?_;simp only[go_sem,c0,b0,b1,b2,b3];try (unfold zd;simp only[qc])
       refine qd ht (ze hp) ?_;simp only[go_sem,c0,b0,b1,b2,b3,b4];exact VC hk hnm
 ·have c0:(t0.kind==4)=false:=by simp[hc]
  rw[c0] at h;simp only[JM,Yd,if_false,xsJ,xpJ] at h;obtain⟨rfl,rfl⟩:=h;simp only[go_sem];refine qd h1 (zo hp) ?_;simp only[go_sem,c0];refine KJ hT he _ _ _ h2 _ _ (zo hp) ?_;simp only[go_sem,zb hp];refine zt [] (fun m env s=>env=(.ptr pid 0 :: .any :: .ptr st.length 0 :: .sc (.bool (t0.kind==4)) :: .ptr (st.length+1) 0 :: .any :: .any::XQ (JW (XD []))) ∧
   s=st.set pid (.cells (Qa T p1))++[.cells qu,.cells (zq n0).cells]) (n:=1) ?_ ⟨rfl,rfl⟩ ?_
  ·exact qv
  rintro m env s ⟨rfl,rfl⟩;unfold qu;simp only[go_sem,c0];exact Zs hk
end Go.Proofs
