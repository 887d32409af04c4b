/- Declarations of types: decltype. -/
import Derived.Test.YtkokccjfpebomaaGreatDoorM9
set_option maxHeartbeats 4000000
set_option linter.unusedSimpArgs false
set_option linter.unusedVariables false
set_option maxRecDepth 8000
namespace Go.Proofs
open Go Go.AL Tryz
theorem Tryz.app1 {n:Nat} (h:n≤1000000):AppOk prog 23 23 1 n:=JW Tryz.aelem23 Tryz.aelem23 Tryz.asize9 Tryz.azero9 rfl Tryz.abytes9 (by omega) h
theorem vt {T:List Tk} (hT:T.length≤100000) {pid:Nat} {e:PM Nd} (he:HC T pid 138 e):HC T pid 102 (XP T e):=by
 intro p r p' h K st hp hk
 refine zM (zE [] func102 rfl results102 ntmps102 ?_)
 unfold XP at h
 simp only[Option.bind_eq_some_iff,Prod.exists] at h
 obtain⟨t0,p1,h1,t1,p2,h2,n1,p3,h3,p4,h4,h⟩:=h
 simp only[go_sem]
 refine QQ hT h1 (zI hp) ?_
 simp only[go_sem,zb hp]
 refine VX hT h2 (zm hp) ?_
 simp only[go_sem,zb hp]
 refine Xl rfl rfl rfl rfl (fun _=>rfl) (ql (.inr rfl) (fun x hx=>by cases hx)) ?_
 unfold Q1
 simp only[go_sem,zb hp]
 refine Z1 (st.length+1) 4 1 0 (Zg 1) (by simp) rfl ?_
 rw[QA]
 simp only[List.length_append,Xn,List.length_cons,List.length_nil,List.set_cons_succ,List.set_cons_zero,List.append_assoc,List.cons_append,List.nil_append,Nat.zero_add,Nat.reduceAdd]
 refine Z1 (st.length+1) 5 6 0 (Zg 1) (by simp) rfl ?_
 rw[QA]
 simp only[List.length_append,Xn,List.length_cons,List.length_nil,List.set_cons_succ,List.set_cons_zero,List.append_assoc,List.cons_append,List.nil_append,Nat.zero_add,Nat.reduceAdd]
 refine zN [] (fun m env s=>∃ (nd:Nd) (q:PS) (k k2:Nat) (ex:St),Yx T m nd q=some (n1,p3)∧m+nd.names.length≤T.length+2∧nd.kids=[]∧env=[.ptr pid 0,.any,.ptr st.length 0,.any,.ptr (st.length+1) 0,.any,.any,.any,.any,.any,.any,.any,.any,.any,.any,.any,.any,.any,.any,.any,.any,.any,.any,.any,.any,.any,.any,.any,.any,.any,.any,.any,.any,.any,.any,.any,.any,.any,.any,.any,.any,.any,.any,.any,.any,.any,.any,.any,.any,.any,.any,.any,.any,.any,.any,.any] ∧
  s=st.set pid (.cells (Z9 T q))++(.cells qK :: .cells (KH (st.length+2) k (st.length+3) k2 nd) :: .tok k :: .tok k2::ex)) (n:=T.length+2) ?_ ⟨_,_,0,0,[],h3,by simp[zT,Nd.names],rfl,rfl,rfl⟩ ?_
 ·repeat (first | exact zj | refine zk _ ?_ | refine zg _ ?_ | refine zf _ ?_)
 rintro m env s ⟨nd,q,k,k2,ex,hl,hm,hkd,rfl,rfl⟩
 cases m with
 | zero=>cases hl
 | succ m =>
 simp only[Yx,Option.bind_eq_some_iff] at hl
 obtain⟨t,h5,hl⟩:=hl
 simp only[go_sem]
 refine qv h5 (zm hp) ?_
 by_cases h6:t.kind=3
 ·have c1:(t.kind==3)=true:=by simp[h6]
  rw[if_pos h6] at hl
  simp only[Option.bind_eq_some_iff,Prod.exists] at hl
  obtain⟨q1,h7,t2,q2,h8,hl⟩:=hl
  unfold KH
  simp only[go_sem,c1]
  refine Y5 (p':=q1) (n:=nd.names.length) (by simpa using h7) (zm hp) fun _=>?_
  simp only[go_sem,zb hp]
  refine zP [] [(0,[6]),(0,[6]),(0,[]),(3,[6]),(0,[]),(0,[]),(3,[8]),(0,[]),(1,[9])] mixed rfl ?_
  simp only[go_sem,zy,zu,zw,zt,zr,zG,zH,zx,zh,qK]
  refine⟨_,_,QQ hT h8 (zm hp) ⟨rfl,rfl⟩,?_⟩
  simp only[go_sem,zy,zu,zw,zt,zr,zG,zH,zx,zh,zb hp]
  rw[zL]
  refine⟨.slice .full 1 [.sc (.string (ba t2.text))],?_,?_⟩
  ·simp only[go_sem]
   exact⟨⟨[],by simp⟩,ZX _ _ (.inr rfl) _ [t2.text],.inl rfl⟩
  simp only[go_sem,zy,zu,zw,zt,zr,zG,zH,zx,zh]
  refine⟨_,_,⟨Tryz.app1 (by omega),rfl,rfl⟩,?_⟩
  simp only[go_sem]
  refine⟨m,_,by omega,?_,nd.addName t2.text,q2,k+1,k2,_,hl,by rw[wd];simp;omega,by rw[uo];exact hkd,rfl,by rw[nJ,nK,fT,fD,wd,uo,List.map_append];rfl⟩
  repeat (first | exact zj | refine zk _ ?_ | refine zg _ ?_ | refine zf _ ?_)
 ·have c1:(t.kind==3)=false:=by simp[h6]
  rw[if_neg h6] at hl
  simp only[Option.some.injEq,Prod.mk.injEq] at hl
  obtain⟨rfl,rfl⟩:=hl
  simp only[go_sem,c1]
  refine Z2 hT h4 (zm hp) fun _=>?_
  simp only[go_sem,zb hp]
  refine zN [] (fun m env s=>∃ (nd:Nd) (q:PS) (k k2:Nat) (more:Bool) (ex:St),Wv T e m more nd q=some (r,p')∧m+nd.kids.length≤T.length+2∧env=[.ptr pid 0,.any,.ptr st.length 0,.any,.ptr (st.length+1) 0,.sc (.bool more),.any,.any,.any,.any,.any,.any,.any,.any,.any,.any,.any,.any,.any,.any,.any,.any,.any,.any,.any,.any,.any,.any,.any,.any,.any,.any,.any,.any,.any,.any,.any,.any,.any,.any,.any,.any,.any,.any,.any,.any,.any,.any,.any,.any,.any,.any,.any,.any,.any,.any] ∧
   s=st.set pid (.cells (Z9 T q))++(.cells qK :: .cells (KH (st.length+2) k (st.length+3) k2 nd) :: .tok k :: .tok k2::ex)) (n:=T.length+2) ?_ ⟨nd,_,k,k2,_,_,h,by simp[hkd],rfl,rfl⟩ ?_
  ·repeat (first | exact zj | refine zk _ ?_ | refine zg _ ?_ | refine zf _ ?_)
  clear h
  rintro m env s ⟨nd,q,k,k2,more,ex,hl,hm,rfl,rfl⟩
  cases m with
  | zero=>cases hl
  | succ m =>
  simp only[Wv] at hl
  have y:=zV (QN (p':=q) hp)
  unfold Z9 at y
  cases more with
  | false =>
   simp only[Bool.false_eq_true,false_and,if_false,Option.some.injEq,Prod.mk.injEq] at hl
   obtain⟨rfl,rfl⟩:=hl
   simp only[go_sem,KH,qK]
   exact LR hk
  | true =>
   by_cases h0:q.e=0
   ·have c1:(q.e==0)=true:=by simp[h0]
    rw[if_pos ⟨rfl,h0⟩] at hl
    simp only[Option.bind_eq_some_iff,Prod.exists] at hl
    obtain⟨q1,h3,x,q2,h4,b2,q3,h5,hl⟩:=hl
    unfold Z9 KH
    simp only[go_sem,y.1,y.2.1,y.2.2,c1]
    refine Y5 (p':=q1) (n:=nd.kids.length) (by simpa using h3) (zm hp) fun _=>?_
    simp only[go_sem,zb hp]
    refine zP [] [(0,[5]),(0,[5]),(0,[]),(3,[5]),(0,[]),(3,[7]),(0,[]),(1,[8])] mixed rfl ?_
    simp only[go_sem,zy,zu,zw,zt,zr,zG,zH,zx,zh,qK]
    refine⟨_,_,sN hT he _ _ _ h4 _ _ (zm hp) ⟨rfl,rfl⟩,?_⟩
    simp only[go_sem,zy,zu,zw,zt,zr,zG,zH,zx,zh,zb hp]
    rw[zL]
    refine⟨.slice .full 6 [zJ x],?_,?_⟩
    ·simp only[go_sem]
     exact⟨⟨[],by simp⟩,qb _ _ (.inr rfl) _ [_],.inl rfl⟩
    simp only[go_sem,zy,zu,zw,zt,zr,zG,zH,zx,zh]
    refine⟨_,_,⟨Tryz.app6 (by omega),rfl,rfl⟩,?_⟩
    simp only[go_sem]
    refine YQ hT h5 (zm hp) ?_
    simp only[go_sem,zb hp]
    refine⟨m,_,by omega,?_,nd.addKid x,q3,k,k2+1,b2,_,hl,by rw[qc];simp;omega,rfl,by rw[qV,qU,Zq,Zp,qs,qc,List.map_append];rfl⟩
    repeat (first | exact zj | refine zk _ ?_ | refine zg _ ?_ | refine zf _ ?_)
   ·have c1:(q.e==0)=false:=by simp[h0]
    rw[if_neg (by simp[h0])] at hl
    simp only[Option.some.injEq,Prod.mk.injEq] at hl
    obtain⟨rfl,rfl⟩:=hl
    unfold Z9 KH qK
    simp only[go_sem,y.1,y.2.1,y.2.2,c1]
    exact LR hk
end Go.Proofs
