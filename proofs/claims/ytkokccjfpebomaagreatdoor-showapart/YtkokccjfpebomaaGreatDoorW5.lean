/- Declarations of types: decltype. -/
import Derived.Test.YtkokccjfpebomaaGreatDoorM9
set_option maxHeartbeats 4000000
set_option linter.unusedSimpArgs false
set_option linter.unusedVariables false
set_option maxRecDepth 8000
namespace Go.Proofs
open Go Go.AL
theorem Tryz.app1 {n:Nat} (h:n≤1000000):AppOk Tryz.prog 23 23 1 n:=Jj Tryz.aelem23 Tryz.aelem23 Tryz.asize9 Tryz.azero9 rfl Tryz.abytes9 (by omega) h
theorem zku {T:List Tk} (hT:T.length≤100000) {pid:Nat} {e:PM Nd} (he:HC T pid 138 e):HC T pid 102 (Xs T e):=by
 intro p r p' h K st hp hk
 refine zK (zC [] Tryz.func102 rfl Tryz.results102 Tryz.ntmps102 ?_)
 unfold Xs at h
 simp only[Option.bind_eq_some_iff,Prod.exists] at h
 obtain⟨t0,p1,h1,t1,p2,h2,n1,p3,h3,p4,h4,h⟩:=h
 simp only[go_sem]
 refine QC hT h1 (zG hp) ?_
 simp only[go_sem,za hp]
 refine VW hT h2 (zl hp) ?_
 simp only[go_sem,za hp]
 refine Q7 rfl rfl rfl rfl (fun _=>rfl) (qf (.inr rfl) (fun x hx=>by cases hx)) ?_
 unfold QM
 simp only[go_sem,za hp]
 refine ZU (st.length+1) 4 1 0 (qY 1) (by simp) rfl ?_
 rw[Qi]
 simp only[List.length_append,Q9,List.length_cons,List.length_nil,List.set_cons_succ,List.set_cons_zero,List.append_assoc,List.cons_append,List.nil_append,Nat.zero_add,Nat.reduceAdd]
 refine ZU (st.length+1) 5 6 0 (qY 1) (by simp) rfl ?_
 rw[Qi]
 simp only[List.length_append,Q9,List.length_cons,List.length_nil,List.set_cons_succ,List.set_cons_zero,List.append_assoc,List.cons_append,List.nil_append,Nat.zero_add,Nat.reduceAdd]
 refine zM [] (fun m env s=>∃ (nd:Nd) (q:PS) (k k2:Nat) (ex:St),Yh T m nd q=some (n1,p3)∧m+nd.names.length≤T.length+2∧nd.kids=[]∧env=[.ptr pid 0,.any,.ptr st.length 0,.any,.ptr (st.length+1) 0,.any,.any,.any,.any,.any,.any,.any,.any,.any,.any,.any,.any,.any,.any,.any,.any,.any,.any,.any,.any,.any,.any,.any,.any,.any,.any,.any,.any,.any,.any,.any,.any,.any,.any,.any,.any,.any,.any,.any,.any,.any,.any,.any,.any,.any,.any,.any,.any,.any,.any,.any] ∧
  s=st.set pid (.cells (ZX T q))++(.cells qD :: .cells (zbo (st.length+2) k (st.length+3) k2 nd) :: .tok k :: .tok k2::ex)) (n:=T.length+2) ?_ ⟨_,_,0,0,[],h3,by simp[zR,Nd.names],rfl,rfl,rfl⟩ ?_
 ·repeat (first | exact zi | refine zh _ ?_ | refine zf _ ?_ | refine ze _ ?_)
 rintro m env s ⟨nd,q,k,k2,ex,hl,hm,hkd,rfl,rfl⟩
 cases m with
 | zero=>cases hl
 | succ m =>
 simp only[Yh,Option.bind_eq_some_iff] at hl
 obtain⟨t,h5,hl⟩:=hl
 simp only[go_sem]
 refine qp h5 (zl hp) ?_
 by_cases h6:t.kind=3
 ·have c1:(t.kind==3)=true:=by simp[h6]
  rw[if_pos h6] at hl
  simp only[Option.bind_eq_some_iff,Prod.exists] at hl
  obtain⟨q1,h7,t2,q2,h8,hl⟩:=hl
  unfold zbo
  simp only[go_sem,c1]
  refine YD (p':=q1) (n:=nd.names.length) (by simpa using h7) (zl hp) fun _=>?_
  simp only[go_sem,za hp]
  refine zO [] [(0,[6]),(0,[6]),(0,[]),(3,[6]),(0,[]),(0,[]),(3,[8]),(0,[]),(1,[9])] Tryz.mixed rfl ?_
  simp only[go_sem,zw,zt,zr,zp,zq,zE,zF,zu,zg,qD]
  refine⟨_,_,QC hT h8 (zl hp) ⟨rfl,rfl⟩,?_⟩
  simp only[go_sem,zw,zt,zr,zp,zq,zE,zF,zu,zg,za hp]
  rw[zJ]
  refine⟨.slice .full 1 [.sc (.string (ba t2.text))],?_,?_⟩
  ·simp only[go_sem]
   exact⟨⟨[],by simp⟩,ZL _ _ (.inr rfl) _ [t2.text],.inl rfl⟩
  simp only[go_sem,zw,zt,zr,zp,zq,zE,zF,zu,zg]
  refine⟨_,_,⟨Tryz.app1 (by omega),rfl,rfl⟩,?_⟩
  simp only[go_sem]
  refine⟨m,_,by omega,?_,nd.addName t2.text,q2,k+1,k2,_,hl,by rw[zim];simp;omega,by rw[zmo];exact hkd,rfl,by rw[zrV,zsq,zvO,zuS,zim,zmo,List.map_append];rfl⟩
  repeat (first | exact zi | refine zh _ ?_ | refine zf _ ?_ | refine ze _ ?_)
 ·have c1:(t.kind==3)=false:=by simp[h6]
  rw[if_neg h6] at hl
  simp only[Option.some.injEq,Prod.mk.injEq] at hl
  obtain⟨rfl,rfl⟩:=hl
  simp only[go_sem,c1]
  refine ZQ hT h4 (zl hp) fun _=>?_
  simp only[go_sem,za hp]
  refine zM [] (fun m env s=>∃ (nd:Nd) (q:PS) (k k2:Nat) (more:Bool) (ex:St),V4 T e m more nd q=some (r,p')∧m+nd.kids.length≤T.length+2∧env=[.ptr pid 0,.any,.ptr st.length 0,.any,.ptr (st.length+1) 0,.sc (.bool more),.any,.any,.any,.any,.any,.any,.any,.any,.any,.any,.any,.any,.any,.any,.any,.any,.any,.any,.any,.any,.any,.any,.any,.any,.any,.any,.any,.any,.any,.any,.any,.any,.any,.any,.any,.any,.any,.any,.any,.any,.any,.any,.any,.any,.any,.any,.any,.any,.any,.any] ∧
   s=st.set pid (.cells (ZX T q))++(.cells qD :: .cells (zbo (st.length+2) k (st.length+3) k2 nd) :: .tok k :: .tok k2::ex)) (n:=T.length+2) ?_ ⟨nd,_,k,k2,_,_,h,by simp[hkd],rfl,rfl⟩ ?_
  ·repeat (first | exact zi | refine zh _ ?_ | refine zf _ ?_ | refine ze _ ?_)
  clear h
  rintro m env s ⟨nd,q,k,k2,more,ex,hl,hm,rfl,rfl⟩
  cases m with
  | zero=>cases hl
  | succ m =>
  simp only[V4] at hl
  have y:=zT (Qy (p':=q) hp)
  unfold ZX at y
  cases more with
  | false =>
   simp only[Bool.false_eq_true,false_and,if_false,Option.some.injEq,Prod.mk.injEq] at hl
   obtain⟨rfl,rfl⟩:=hl
   simp only[go_sem,zbo,qD]
   exact zj6 hk
  | true =>
   by_cases h0:q.e=0
   ·have c1:(q.e==0)=true:=by simp[h0]
    rw[if_pos ⟨rfl,h0⟩] at hl
    simp only[Option.bind_eq_some_iff,Prod.exists] at hl
    obtain⟨q1,h3,x,q2,h4,b2,q3,h5,hl⟩:=hl
    unfold ZX zbo
    simp only[go_sem,y.1,y.2.1,y.2.2,c1]
    refine YD (p':=q1) (n:=nd.kids.length) (by simpa using h3) (zl hp) fun _=>?_
    simp only[go_sem,za hp]
    refine zO [] [(0,[5]),(0,[5]),(0,[]),(3,[5]),(0,[]),(3,[7]),(0,[]),(1,[8])] Tryz.mixed rfl ?_
    simp only[go_sem,zw,zt,zr,zp,zq,zE,zF,zu,zg,qD]
    refine⟨_,_,zzd hT he _ _ _ h4 _ _ (zl hp) ⟨rfl,rfl⟩,?_⟩
    simp only[go_sem,zw,zt,zr,zp,zq,zE,zF,zu,zg,za hp]
    rw[zJ]
    refine⟨.slice .full 6 [zH x],?_,?_⟩
    ·simp only[go_sem]
     exact⟨⟨[],by simp⟩,zY _ _ (.inr rfl) _ [_],.inl rfl⟩
    simp only[go_sem,zw,zt,zr,zp,zq,zE,zF,zu,zg]
    refine⟨_,_,⟨Tryz.app6 (by omega),rfl,rfl⟩,?_⟩
    simp only[go_sem]
    refine Yv hT h5 (zl hp) ?_
    simp only[go_sem,za hp]
    refine⟨m,_,by omega,?_,nd.addKid x,q3,k,k2+1,b2,_,hl,by rw[z8];simp;omega,rfl,by rw[qM,qO,Zf,Zg,qm,z8,List.map_append];rfl⟩
    repeat (first | exact zi | refine zh _ ?_ | refine zf _ ?_ | refine ze _ ?_)
   ·have c1:(q.e==0)=false:=by simp[h0]
    rw[if_neg (by simp[h0])] at hl
    simp only[Option.some.injEq,Prod.mk.injEq] at hl
    obtain⟨rfl,rfl⟩:=hl
    unfold ZX zbo qD
    simp only[go_sem,y.1,y.2.1,y.2.2,c1]
    exact zj6 hk
end Go.Proofs
