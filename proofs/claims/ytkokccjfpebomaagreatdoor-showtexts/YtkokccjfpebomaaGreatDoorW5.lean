/- Declarations of types: decltype. -/
import Derived.Test.YtkokccjfpebomaaGreatDoorM9
set_option linter.all false
set_option maxHeartbeats 4000000
set_option maxRecDepth 8000
namespace Go.Proofs
open Go Go.AL Tryz
theorem Tryz.app1{n:Nat}(h:n≤1000000):AppOk prog 23 23 1 n:=J4 Tryz.aelem23 Tryz.aelem23 Tryz.asize9 Tryz.azero9 rfl Tryz.abytes9 (by omega) h
theorem uk{T:List Tk}(hT:T.length≤100000){pid:Nat}{e:PM Nd}(he:HC T pid 138 e):HC T pid 102 (Q9 T e):=by
 intro p r p' h K st hp hk;refine zw (zl [] func102 rfl results102 ntmps102 ?_);unfold Q9 at h;simp only[xoB,xpX] at h;obtain⟨t0,p1,h1,t1,p2,h2,n1,p3,h3,p4,h4,h⟩:=h;simp only[go_sem];refine QT hT h1 (zo hp) ?_;simp only[go_sem,zb hp];refine Wi hT h2 (ze hp) ?_;simp only[go_sem,zb hp];refine Xx rfl rfl rfl rfl (fun _=>rfl) (zQ (.inr rfl) (fun x hx=>by cases hx)) ?_;unfold Q8;simp only[go_sem,zb hp];refine Z2 (st.length+1) 4 1 0 (Za 1) (by simp) rfl ?_;rw[Qu];simp only[xlA,Xv,xlC,xlN,xsS,xsZ,xaA,xcA,xnA,Nat.zero_add,Nat.reduceAdd];refine Z2 (st.length+1) 5 6 0 (Za 1) (by simp) rfl ?_;rw[Qu];simp only[xlA,Xv,xlC,xlN,xsS,xsZ,xaA,xcA,xnA,Nat.zero_add,Nat.reduceAdd];refine zt [] (fun m env s=>∃ (nd:Nd) (q:PS) (k k2:Nat) (ex:St),QF T m nd q=some (n1,p3)∧m+nd.names.length≤T.length+2∧nd.kids=[]∧env=(.ptr pid 0 :: .any :: .ptr st.length 0 :: .any :: .ptr (st.length+1) 0 :: .any :: .any :: .any::X3 (XD [])) ∧
  s=st.set pid (.cells (Qa T q))++(.cells qu :: .cells (UC (st.length+2) k (st.length+3) k2 nd) :: .tok k :: .tok k2::ex)) (n:=T.length+2) ?_ ⟨_,_,0,0,[],h3,by simp[zr,Nd.names],rfl,rfl,rfl⟩ ?_
 ·exact qv
 rintro m env s ⟨nd,q,k,k2,ex,hl,hm,hkd,rfl,rfl⟩;cases m with
 | zero=>cases hl
 | succ m =>
 simp only[QF,xoB] at hl;obtain⟨t,h5,hl⟩:=hl;simp only[go_sem];refine qd h5 (ze hp) ?_;by_cases h6:t.kind=3
 ·have c1:(t.kind==3)=true:=by simp[h6]
  rw[if_pos h6] at hl;simp only[xoB,xpX] at hl;obtain⟨q1,h7,t2,q2,h8,hl⟩:=hl;unfold UC;simp only[go_sem,c1];refine Jk (p':=q1) (n:=nd.names.length) (by simpa using h7) (ze hp) fun _=>?_;simp only[go_sem,zb hp];refine zA [] [(0,[6]),(0,[6]),(0,[]),(3,[6]),(0,[]),(0,[]),(3,[8]),(0,[]),(1,[9])] mixed rfl ?_;simp only[go_sem,qu];refine⟨_,_,QT hT h8 (ze hp) ⟨rfl,rfl⟩,?_⟩;simp only[go_sem,zb hp];rw[zp];refine⟨.slice .full 1 [.sc (.string (ba t2.text))],?_,?_⟩
  ·simp only[go_sem];exact⟨⟨[],by simp⟩,ZX _ _ (.inr rfl) _ [t2.text],.inl rfl⟩
  simp only[go_sem];refine⟨_,_,⟨Tryz.app1 (by omega),rfl,rfl⟩,?_⟩;simp only[go_sem];refine⟨m,_,by omega,?_,nd.addName t2.text,q2,k+1,k2,_,hl,by rw[jV];simp;omega,by rw[yn];exact hkd,rfl,by rw[fk,fR,rN,aT,jV,yn,xmA];rfl⟩;exact qv
 ·have c1:(t.kind==3)=false:=by simp[h6]
  rw[if_neg h6] at hl;simp only[xsJ,xpJ] at hl;obtain⟨rfl,rfl⟩:=hl;simp only[go_sem,c1];refine Z6 hT h4 (ze hp) fun _=>?_;simp only[go_sem,zb hp];refine zt [] (fun m env s=>∃ (nd:Nd) (q:PS) (k k2:Nat) (more:Bool) (ex:St),Y7 T e m more nd q=some (r,p')∧m+nd.kids.length≤T.length+2∧env=(.ptr pid 0 :: .any :: .ptr st.length 0 :: .any :: .ptr (st.length+1) 0 :: .sc (.bool more) :: .any :: .any::X3 (XD [])) ∧
   s=st.set pid (.cells (Qa T q))++(.cells qu :: .cells (UC (st.length+2) k (st.length+3) k2 nd) :: .tok k :: .tok k2::ex)) (n:=T.length+2) ?_ ⟨nd,_,k,k2,_,_,h,by simp[hkd],rfl,rfl⟩ ?_
  ·exact qv
  clear h;rintro m env s ⟨nd,q,k,k2,more,ex,hl,hm,rfl,rfl⟩;cases m with
  | zero=>cases hl
  | succ m =>
  simp only[Y7] at hl;have y:=zF (QJ (p':=q) hp);unfold Qa at y;cases more with
  | false =>
   simp only[Yd,false_and,if_false,xsJ,xpJ] at hl;obtain⟨rfl,rfl⟩:=hl;simp only[go_sem,UC,qu];exact jO hk
  | true =>
   by_cases h0:q.e=0
   ·have c1:(q.e==0)=true:=by simp[h0]
    rw[if_pos ⟨rfl,h0⟩] at hl;simp only[xoB,xpX] at hl;obtain⟨q1,h3,x,q2,h4,b2,q3,h5,hl⟩:=hl;unfold Qa UC;simp only[go_sem,y.1,y.2.1,y.2.2,c1];refine Jk (p':=q1) (n:=nd.kids.length) (by simpa using h3) (ze hp) fun _=>?_;simp only[go_sem,zb hp];refine zA [] [(0,[5]),(0,[5]),(0,[]),(3,[5]),(0,[]),(3,[7]),(0,[]),(1,[8])] mixed rfl ?_;simp only[go_sem,qu];refine⟨_,_,Ch hT he _ _ _ h4 _ _ (ze hp) ⟨rfl,rfl⟩,?_⟩;simp only[go_sem,zb hp];rw[zp];refine⟨.slice .full 6 [zq x],?_,?_⟩
    ·simp only[go_sem];exact⟨⟨[],by simp⟩,zK _ _ (.inr rfl) _ [_],.inl rfl⟩
    simp only[go_sem];refine⟨_,_,⟨Tryz.app6 (by omega),rfl,rfl⟩,?_⟩;simp only[go_sem];refine Y9 hT h5 (ze hp) ?_;simp only[go_sem,zb hp];refine⟨m,_,by omega,?_,nd.addKid x,q3,k,k2+1,b2,_,hl,by rw[zM];simp;omega,rfl,by rw[qK,qI,Zo,Zn,qb,zM,xmA];rfl⟩;exact qv
   ·have c1:(q.e==0)=false:=by simp[h0]
    rw[if_neg (by simp[h0])] at hl;simp only[xsJ,xpJ] at hl;obtain⟨rfl,rfl⟩:=hl;unfold Qa UC qu;simp only[go_sem,y.1,y.2.1,y.2.2,c1];exact jO hk
end Go.Proofs
