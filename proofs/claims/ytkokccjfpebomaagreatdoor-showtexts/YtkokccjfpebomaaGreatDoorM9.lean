/- Types: tyapp. -/
import Derived.Test.YtkokccjfpebomaaGreatDoorN8
set_option linter.all false
set_option maxHeartbeats 4000000
set_option maxRecDepth 8000
namespace Go.Proofs
open Go Go.AL Tryz
theorem Tryz.app6{n:Nat}(h:n≤1000000):AppOk prog 24 24 6 n:=J4 Tryz.aelem24 Tryz.aelem24 Tryz.asize26 Tryz.azero26 rfl Tryz.abytes26 (by omega) h
theorem NC{T:List Tk}(hT:T.length≤100000){pid:Nat}{e:PM Nd}(he:HC T pid 138 e):HC T pid 138 (ma T e):=by
 intro p r p' h K st hp hk;refine zw (zl [] func138 rfl results138 ntmps138 ?_);unfold ma at h;simp only[xoB,xpX] at h;obtain⟨t0,p1,h1,h⟩:=h;simp only[go_sem];refine Wi hT h1 (zo hp) ?_;simp only[go_sem,zb hp];refine Xx rfl rfl rfl rfl (fun _=>rfl) (zQ (.inr rfl) (fun x hx=>by cases hx)) ?_;unfold Q8;simp only[go_sem,zb hp];refine Z2 (st.length+2) 5 6 0 (Za 2) (by simp) rfl ?_;rw[Qu];simp only[xlA,Xv,xlC,xlN,xsS,xsZ,xaA,xcA,xnA,Nat.zero_add,Nat.reduceAdd];refine zt [] (fun m env s=>∃ (nd:Nd) (q:PS) (k:Nat) (b:Ob) (ex:St),j' T e m nd q=some (r,p')∧m+nd.kids.length≤T.length+2∧nd.names=[]∧env=(.ptr pid 0 :: .any :: .ptr st.length 0 :: .any :: .ptr (st.length+2) 0 :: .any::XQ (XD [])) ∧
  s=st.set pid (.cells (Qa T q))++(.cells qu::b :: .cells (qg (st.length+3) k nd) :: .tok k::ex)) (n:=T.length+2) ?_ ⟨_,_,0,_,[],h,by simp[zr,Nd.kids],rfl,rfl,rfl⟩ ?_
 ·exact qv
 rintro m env s ⟨nd,q,k,b,ex,hl,hm,hnm,rfl,rfl⟩;cases m with
 | zero=>cases hl
 | succ m =>
 simp only[j',xoB] at hl;obtain⟨t,h2,hl⟩:=hl;simp only[go_sem];refine qd h2 (ze hp) ?_;have hle:k+1≤k+1:=Nat.le_refl _;by_cases h3:t.kind=3
 ·have c1:(t.kind==3)=true:=by simp[h3]
  rw[if_pos h3,xoB] at hl;obtain⟨⟨t1,q1⟩,h4,hl⟩:=hl;simp only[go_sem,c1];refine QT hT h4 (ze hp) ?_;simp only[go_sem,zb hp];refine zA [] [(0,[8]),(0,[8]),(0,[]),(0,[]),(0,[]),(0,[]),(3,[8]),(0,[]),(3,[10]),(0,[]),(1,[11])] mixed rfl ?_;simp only[go_sem,qg,qu];refine⟨_,_,Vs (kids:=[]) (.inr rfl) ⟨rfl,rfl⟩,?_⟩;simp only[go_sem];rw[zp];refine⟨.slice .full 6 [zq (zr 27 t.pos t.text [])],?_,?_⟩
  ·simp only[go_sem];exact⟨⟨[],by simp⟩,zK _ _ (.inr rfl) _ [_],.inl rfl⟩
  simp only[go_sem];refine⟨_,_,⟨Tryz.app6 (by omega),rfl,rfl⟩,?_⟩;simp only[go_sem];refine⟨m,_,by omega,?_,nd.addKid (zr 27 t.pos t.text []),q1,k+1,b,_,hl,by rw[zM];simp;omega,by rw[qb];exact hnm,rfl,by rw[qK,qI,Zo,Zn,zM,xmA];rfl⟩;exact qv
 ·have c1:(t.kind==3)=false:=by simp[h3]
  rw[if_neg h3] at hl;unfold Ye at hl;rw[h2] at hl;simp only[xmS,xbS] at hl;simp only[go_sem,c1];refine Zy h2 (ze hp) ?_;cases hb:isT t [40] with
  | true =>
   rw[hb] at hl;simp only[if_true,xoB,xpX] at hl;obtain⟨x,q1,h4,hl⟩:=hl;simp only[go_sem];refine zA [] [(0,[5]),(0,[5]),(0,[]),(3,[5]),(0,[]),(3,[7]),(0,[]),(1,[8])] mixed rfl ?_;simp only[go_sem,qg,qu];refine⟨_,_,uE hT he rfl h4 (ze hp) ⟨rfl,rfl⟩,?_⟩;simp only[go_sem,zb hp];rw[zp];refine⟨.slice .full 6 [zq x],?_,?_⟩
   ·simp only[go_sem];exact⟨⟨[],by simp⟩,zK _ _ (.inr rfl) _ [_],.inl rfl⟩
   simp only[go_sem];refine⟨_,_,⟨Tryz.app6 (by omega),rfl,rfl⟩,?_⟩;simp only[go_sem];refine⟨m,_,by omega,?_,nd.addKid x,q1,k+1,b,_,hl,by rw[zM];simp;omega,by rw[qb];exact hnm,rfl,by rw[qK,qI,Zo,Zn,zM,xmA];rfl⟩;exact qv
  | false =>
   rw[hb] at hl;simp only[Yd,if_false,xsJ,xpJ] at hl;obtain⟨rfl,rfl⟩:=hl;simp only[go_sem,qg,qu];exact VC hk hnm
theorem Ch{T:List Tk}(hT:T.length≤100000){pid:Nat}{e:PM Nd}(he:HC T pid 138 e):HC T pid 122 (HG T e):=by
 intro p r p' h K st hp hk;refine zw (zl [] func122 rfl results122 ntmps122 ?_);unfold HG at h;simp only[xoB,xpX] at h;obtain⟨t0,p1,h1,b0,p2,h2,h⟩:=h;simp only[go_sem];refine Wi hT h1 (zo hp) ?_;simp only[go_sem,zb hp];refine Xx rfl rfl rfl rfl (fun _=>rfl) (zQ (.inr rfl) (fun x hx=>by cases hx)) ?_;unfold Q8;cases b0 with
 | false =>
  simp only[Yd,if_false,xsJ,xpJ] at h;obtain⟨rfl,rfl⟩:=h;simp only[go_sem,zb hp];refine Y9 hT h2 (ze hp) ?_;simp only[go_sem,zb hp];exact YA (z1:=0) (z2:=0) (m1 :=.full) (m2 :=.full) (nd:=zr 26 t0.pos t0.text []) hk (.inr rfl) (.inr rfl)
 | true =>
  rw[if_pos rfl] at h;simp only[go_sem,zb hp];refine Y9 hT h2 (ze hp) ?_;simp only[go_sem,zb hp];refine Z2 (st.length+2) 5 6 0 (Za 2) (by simp) rfl ?_;rw[Qu];simp only[xlA,Xv,xlC,xlN,xsS,xsZ,xaA,xcA,xnA,Nat.zero_add,Nat.reduceAdd];refine zt [] (fun m env s=>∃ (nd:Nd) (q:PS) (k:Nat) (b:Ob) (more:Bool) (ex:St),Um T e m more nd q=some (r,p')∧m+nd.kids.length≤T.length+2∧nd.names=[]∧env=(.ptr pid 0 :: .any :: .ptr st.length 0 :: .any :: .ptr (st.length+2) 0 :: .sc (.bool more) :: .any :: .any::XD []) ∧
   s=st.set pid (.cells (Qa T q))++(.cells qu::b :: .cells (qg (st.length+3) k nd) :: .tok k::ex)) (n:=T.length+2) ?_ ⟨_,_,0,_,_,[],h,by simp[zr,Nd.kids],rfl,rfl,rfl⟩ ?_
  ·exact qv
  rintro m env s ⟨nd,q,k,b,more,ex,hl,hm,hnm,rfl,rfl⟩;cases m with
  | zero=>cases hl
  | succ m =>
  simp only[Um] at hl;have y:=zF (QJ (p':=q) hp);unfold Qa at y;cases more with
  | false =>
   simp only[Yd,false_and,if_false,xsJ,xpJ] at hl;obtain⟨rfl,rfl⟩:=hl;simp only[go_sem,qg,qu];exact VC hk hnm
  | true =>
   by_cases h0:q.e=0
   ·have c1:(q.e==0)=true:=by simp[h0]
    rw[if_pos ⟨rfl,h0⟩] at hl;simp only[xoB,xpX] at hl;obtain⟨q1,h3,x,q2,h4,b2,q3,h5,hl⟩:=hl;unfold Qa qg;simp only[go_sem,y.1,y.2.1,y.2.2,c1];refine Jk (p':=q1) (n:=nd.kids.length) (by simpa using h3) (ze hp) fun _=>?_;simp only[go_sem,zb hp];refine zA [] [(0,[5]),(0,[5]),(0,[]),(3,[5]),(0,[]),(3,[7]),(0,[]),(1,[8])] mixed rfl ?_;simp only[go_sem,qu];refine⟨_,_,WI he rfl h4 (ze hp) ⟨rfl,rfl⟩,?_⟩;simp only[go_sem,zb hp];rw[zp];refine⟨.slice .full 6 [zq x],?_,?_⟩
    ·simp only[go_sem];exact⟨⟨[],by simp⟩,zK _ _ (.inr rfl) _ [_],.inl rfl⟩
    simp only[go_sem];refine⟨_,_,⟨Tryz.app6 (by omega),rfl,rfl⟩,?_⟩;simp only[go_sem];refine Y9 hT h5 (ze hp) ?_;simp only[go_sem,zb hp];refine⟨m,_,by omega,?_,nd.addKid x,q3,k+1,b,b2,_,hl,by rw[zM];simp;omega,by rw[qb];exact hnm,rfl,by rw[qK,qI,Zo,Zn,zM,xmA];rfl⟩;exact qv
   ·have c1:(q.e==0)=false:=by simp[h0]
    rw[if_neg (by simp[h0])] at hl;simp only[xsJ,xpJ] at hl;obtain⟨rfl,rfl⟩:=hl;unfold Qa qg qu;simp only[go_sem,y.1,y.2.1,y.2.2,c1];exact VC hk hnm
end Go.Proofs
