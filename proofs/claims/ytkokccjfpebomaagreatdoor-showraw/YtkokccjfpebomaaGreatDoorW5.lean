/- Declarations of types: decltype. -/
import Derived.Test.YtkokccjfpebomaaGreatDoorM9
set_option linter.all false
set_option maxHeartbeats 4000000
set_option maxRecDepth 8000
namespace Go.Proofs
open Go Go.AL Tryz
theorem Tryz.app1{n:Nat}(h:n≤1000000):AppOk prog 23 23 1 n:=Vm Tryz.aelem23 Tryz.aelem23 Tryz.asize9 Tryz.azero9 rfl Tryz.abytes9 (by omega) h
theorem uX{T:List Tk}(hT:T.length≤100000){pid:Nat}{e:PM Nd}(he:HC T pid 138 e):HC T pid 102 (QS T e):=by
 intro p r p' h K st hp hk;refine zA (zp [] func102 rfl results102 ntmps102 ?_);unfold QS at h;simp only[xoB,xpX] at h;obtain⟨t0,p1,h1,t1,p2,h2,n1,p3,h3,p4,h4,h⟩:=h;simp only[go_sem];refine Q9 hT h1 (zu hp) ?_;simp only[go_sem,zb hp];refine WU hT h2 (zh hp) ?_;simp only[go_sem,zb hp];refine XF rfl rfl rfl rfl (fun _=>rfl) (zT (.inr rfl) (fun x hx=>by cases hx)) ?_;unfold Xk;simp only[go_sem,zb hp];refine ZS (st.length+1) 4 1 0 (Zi 1) (by simp) rfl ?_;rw[QK];simp only[xlA,XG,xlC,xlN,xsS,xsZ,xaA,xcA,xnA,Nat.zero_add,Nat.reduceAdd];refine ZS (st.length+1) 5 6 0 (Zi 1) (by simp) rfl ?_;rw[QK];simp only[xlA,XG,xlC,xlN,xsS,xsZ,xaA,xcA,xnA,Nat.zero_add,Nat.reduceAdd];refine zx [] (fun m env s=>∃ (nd:Nd) (q:PS) (k k2:Nat) (ex:St),Qx T m nd q=some (n1,p3)∧m+nd.names.length≤T.length+2∧nd.kids=[]∧env=[.ptr pid 0,.any,.ptr st.length 0,.any,.ptr (st.length+1) 0,.any,.any,.any,.any,.any,.any,.any,.any,.any,.any,.any,.any,.any,.any,.any,.any,.any,.any,.any,.any,.any,.any,.any,.any,.any,.any,.any,.any,.any,.any,.any,.any,.any,.any,.any,.any,.any,.any,.any,.any,.any,.any,.any,.any,.any,.any,.any,.any,.any,.any,.any] ∧
  s=st.set pid (.cells (Qn T q))++(.cells qv :: .cells (Xh (st.length+2) k (st.length+3) k2 nd) :: .tok k :: .tok k2::ex)) (n:=T.length+2) ?_ ⟨_,_,0,0,[],h3,by simp[zw,Nd.names],rfl,rfl,rfl⟩ ?_
 ·exact qu
 rintro m env s ⟨nd,q,k,k2,ex,hl,hm,hkd,rfl,rfl⟩;cases m with
 | zero=>cases hl
 | succ m =>
 simp only[Qx,xoB] at hl;obtain⟨t,h5,hl⟩:=hl;simp only[go_sem];refine qi h5 (zh hp) ?_;by_cases h6:t.kind=3
 ·have c1:(t.kind==3)=true:=by simp[h6]
  rw[if_pos h6] at hl;simp only[xoB,xpX] at hl;obtain⟨q1,h7,t2,q2,h8,hl⟩:=hl;unfold Xh;simp only[go_sem,c1];refine Jq (p':=q1) (n:=nd.names.length) (by simpa using h7) (zh hp) fun _=>?_;simp only[go_sem,zb hp];refine zB [] [(0,[6]),(0,[6]),(0,[]),(3,[6]),(0,[]),(0,[]),(3,[8]),(0,[]),(1,[9])] mixed rfl ?_;simp only[go_sem,qv];refine⟨_,_,Q9 hT h8 (zh hp) ⟨rfl,rfl⟩,?_⟩;simp only[go_sem,zb hp];rw[zt];refine⟨.slice .full 1 [.sc (.string (ba t2.text))],?_,?_⟩
  ·simp only[go_sem];exact⟨⟨[],by simp⟩,Z1 _ _ (.inr rfl) _ [t2.text],.inl rfl⟩
  simp only[go_sem];refine⟨_,_,⟨Tryz.app1 (by omega),rfl,rfl⟩,?_⟩;simp only[go_sem];refine⟨m,_,by omega,?_,nd.addName t2.text,q2,k+1,k2,_,hl,by rw[wY];simp;omega,by rw[gN];exact hkd,rfl,by rw[oW,aQ,AC,Aj,wY,gN,xmA];rfl⟩;exact qu
 ·have c1:(t.kind==3)=false:=by simp[h6]
  rw[if_neg h6] at hl;simp only[xsJ,xpJ] at hl;obtain⟨rfl,rfl⟩:=hl;simp only[go_sem,c1];refine Qe hT h4 (zh hp) fun _=>?_;simp only[go_sem,zb hp];refine zx [] (fun m env s=>∃ (nd:Nd) (q:PS) (k k2:Nat) (more:Bool) (ex:St),YP T e m more nd q=some (r,p')∧m+nd.kids.length≤T.length+2∧env=[.ptr pid 0,.any,.ptr st.length 0,.any,.ptr (st.length+1) 0,.sc (.bool more),.any,.any,.any,.any,.any,.any,.any,.any,.any,.any,.any,.any,.any,.any,.any,.any,.any,.any,.any,.any,.any,.any,.any,.any,.any,.any,.any,.any,.any,.any,.any,.any,.any,.any,.any,.any,.any,.any,.any,.any,.any,.any,.any,.any,.any,.any,.any,.any,.any,.any] ∧
   s=st.set pid (.cells (Qn T q))++(.cells qv :: .cells (Xh (st.length+2) k (st.length+3) k2 nd) :: .tok k :: .tok k2::ex)) (n:=T.length+2) ?_ ⟨nd,_,k,k2,_,_,h,by simp[hkd],rfl,rfl⟩ ?_
  ·exact qu
  clear h;rintro m env s ⟨nd,q,k,k2,more,ex,hl,hm,rfl,rfl⟩;cases m with
  | zero=>cases hl
  | succ m =>
  simp only[YP] at hl;have y:=zI (QV (p':=q) hp);unfold Qn at y;cases more with
  | false =>
   simp only[XU,false_and,if_false,xsJ,xpJ] at hl;obtain⟨rfl,rfl⟩:=hl;simp only[go_sem,Xh,qv];exact kC hk
  | true =>
   by_cases h0:q.e=0
   ·have c1:(q.e==0)=true:=by simp[h0]
    rw[if_pos ⟨rfl,h0⟩] at hl;simp only[xoB,xpX] at hl;obtain⟨q1,h3,x,q2,h4,b2,q3,h5,hl⟩:=hl;unfold Qn Xh;simp only[go_sem,y.1,y.2.1,y.2.2,c1];refine Jq (p':=q1) (n:=nd.kids.length) (by simpa using h3) (zh hp) fun _=>?_;simp only[go_sem,zb hp];refine zB [] [(0,[5]),(0,[5]),(0,[]),(3,[5]),(0,[]),(3,[7]),(0,[]),(1,[8])] mixed rfl ?_;simp only[go_sem,qv];refine⟨_,_,OY hT he _ _ _ h4 _ _ (zh hp) ⟨rfl,rfl⟩,?_⟩;simp only[go_sem,zb hp];rw[zt];refine⟨.slice .full 6 [zq x],?_,?_⟩
    ·simp only[go_sem];exact⟨⟨[],by simp⟩,zM _ _ (.inr rfl) _ [_],.inl rfl⟩
    simp only[go_sem];refine⟨_,_,⟨Tryz.app6 (by omega),rfl,rfl⟩,?_⟩;simp only[go_sem];refine Jg hT h5 (zh hp) ?_;simp only[go_sem,zb hp];refine⟨m,_,by omega,?_,nd.addKid x,q3,k,k2+1,b2,_,hl,by rw[zQ];simp;omega,rfl,by rw[qV,qT,Zv,Zu,qh,zQ,xmA];rfl⟩;exact qu
   ·have c1:(q.e==0)=false:=by simp[h0]
    rw[if_neg (by simp[h0])] at hl;simp only[xsJ,xpJ] at hl;obtain⟨rfl,rfl⟩:=hl;unfold Qn Xh qv;simp only[go_sem,y.1,y.2.1,y.2.2,c1];exact kC hk
end Go.Proofs
