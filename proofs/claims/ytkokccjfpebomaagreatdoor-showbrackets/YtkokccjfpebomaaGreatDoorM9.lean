/- Types: tyapp. -/
import Derived.Test.YtkokccjfpebomaaGreatDoorN8
set_option maxHeartbeats 4000000
set_option linter.unusedSimpArgs false
set_option linter.unusedVariables false
set_option maxRecDepth 8000
namespace Go.Proofs
open Go Go.AL Tryz
theorem Tryz.app6 {n:Nat} (h:n≤1000000):AppOk prog 24 24 6 n:=JW Tryz.aelem24 Tryz.aelem24 Tryz.asize26 Tryz.azero26 rfl Tryz.abytes26 (by omega) h
theorem Az {T:List Tk} (hT:T.length≤100000) {pid:Nat} {e:PM Nd} (he:HC T pid 138 e):HC T pid 138 (b7 T e):=by
 intro p r p' h K st hp hk
 refine zM (zE [] func138 rfl results138 ntmps138 ?_)
 unfold b7 at h
 simp only[Option.bind_eq_some_iff,Prod.exists] at h
 obtain⟨t0,p1,h1,h⟩:=h
 simp only[go_sem]
 refine VX hT h1 (zI hp) ?_
 simp only[go_sem,zb hp]
 refine Xl rfl rfl rfl rfl (fun _=>rfl) (ql (.inr rfl) (fun x hx=>by cases hx)) ?_
 unfold Q1
 simp only[go_sem,zb hp]
 refine Z1 (st.length+2) 5 6 0 (Zg 2) (by simp) rfl ?_
 rw[QA]
 simp only[List.length_append,Xn,List.length_cons,List.length_nil,List.set_cons_succ,List.set_cons_zero,List.append_assoc,List.cons_append,List.nil_append,Nat.zero_add,Nat.reduceAdd]
 refine zN [] (fun m env s=>∃ (nd:Nd) (q:PS) (k:Nat) (b:Ob) (ex:St),gF T e m nd q=some (r,p')∧m+nd.kids.length≤T.length+2∧nd.names=[]∧env=[.ptr pid 0,.any,.ptr st.length 0,.any,.ptr (st.length+2) 0,.any,.any,.any,.any,.any,.any,.any,.any,.any,.any,.any,.any,.any,.any,.any,.any,.any,.any,.any,.any,.any,.any,.any,.any,.any,.any,.any,.any,.any,.any,.any,.any,.any,.any,.any,.any,.any] ∧
  s=st.set pid (.cells (Z9 T q))++(.cells qK::b :: .cells (qw (st.length+3) k nd) :: .tok k::ex)) (n:=T.length+2) ?_ ⟨_,_,0,_,[],h,by simp[zT,Nd.kids],rfl,rfl,rfl⟩ ?_
 ·repeat (first | exact zj | refine zk _ ?_ | refine zg _ ?_ | refine zf _ ?_)
 rintro m env s ⟨nd,q,k,b,ex,hl,hm,hnm,rfl,rfl⟩
 cases m with
 | zero=>cases hl
 | succ m =>
 simp only[gF,Option.bind_eq_some_iff] at hl
 obtain⟨t,h2,hl⟩:=hl
 simp only[go_sem]
 refine qv h2 (zm hp) ?_
 have hle:k+1≤k+1:=Nat.le_refl _
 by_cases h3:t.kind=3
 ·have c1:(t.kind==3)=true:=by simp[h3]
  rw[if_pos h3,Option.bind_eq_some_iff] at hl
  obtain⟨⟨t1,q1⟩,h4,hl⟩:=hl
  simp only[go_sem,c1]
  refine QQ hT h4 (zm hp) ?_
  simp only[go_sem,zb hp]
  refine zP [] [(0,[8]),(0,[8]),(0,[]),(0,[]),(0,[]),(0,[]),(3,[8]),(0,[]),(3,[10]),(0,[]),(1,[11])] mixed rfl ?_
  simp only[go_sem,zy,zu,zw,zt,zr,zG,zH,zx,zh,qw,qK]
  refine⟨_,_,Vl (kids:=[]) (.inr rfl) ⟨rfl,rfl⟩,?_⟩
  simp only[go_sem,zy,zu,zw,zt,zr,zG,zH,zx,zh]
  rw[zL]
  refine⟨.slice .full 6 [zJ (zT 27 t.pos t.text [])],?_,?_⟩
  ·simp only[go_sem]
   exact⟨⟨[],by simp⟩,qb _ _ (.inr rfl) _ [_],.inl rfl⟩
  simp only[go_sem,zy,zu,zw,zt,zr,zG,zH,zx,zh]
  refine⟨_,_,⟨Tryz.app6 (by omega),rfl,rfl⟩,?_⟩
  simp only[go_sem]
  refine⟨m,_,by omega,?_,nd.addKid (zT 27 t.pos t.text []),q1,k+1,b,_,hl,by rw[qc];simp;omega,by rw[qs];exact hnm,rfl,by rw[qV,qU,Zq,Zp,qc,List.map_append];rfl⟩
  repeat (first | exact zj | refine zk _ ?_ | refine zg _ ?_ | refine zf _ ?_)
 ·have c1:(t.kind==3)=false:=by simp[h3]
  rw[if_neg h3] at hl
  unfold Jn at hl
  rw[h2] at hl
  simp only[Option.map_some,Option.bind_some] at hl
  simp only[go_sem,c1]
  refine ZB h2 (zm hp) ?_
  cases hb:isT t [40] with
  | true =>
   rw[hb] at hl
   simp only[if_true,Option.bind_eq_some_iff,Prod.exists] at hl
   obtain⟨x,q1,h4,hl⟩:=hl
   simp only[go_sem]
   refine zP [] [(0,[5]),(0,[5]),(0,[]),(3,[5]),(0,[]),(3,[7]),(0,[]),(1,[8])] mixed rfl ?_
   simp only[go_sem,zy,zu,zw,zt,zr,zG,zH,zx,zh,qw,qK]
   refine⟨_,_,vS hT he rfl h4 (zm hp) ⟨rfl,rfl⟩,?_⟩
   simp only[go_sem,zy,zu,zw,zt,zr,zG,zH,zx,zh,zb hp]
   rw[zL]
   refine⟨.slice .full 6 [zJ x],?_,?_⟩
   ·simp only[go_sem]
    exact⟨⟨[],by simp⟩,qb _ _ (.inr rfl) _ [_],.inl rfl⟩
   simp only[go_sem,zy,zu,zw,zt,zr,zG,zH,zx,zh]
   refine⟨_,_,⟨Tryz.app6 (by omega),rfl,rfl⟩,?_⟩
   simp only[go_sem]
   refine⟨m,_,by omega,?_,nd.addKid x,q1,k+1,b,_,hl,by rw[qc];simp;omega,by rw[qs];exact hnm,rfl,by rw[qV,qU,Zq,Zp,qc,List.map_append];rfl⟩
   repeat (first | exact zj | refine zk _ ?_ | refine zg _ ?_ | refine zf _ ?_)
  | false =>
   rw[hb] at hl
   simp only[Bool.false_eq_true,if_false,Option.some.injEq,Prod.mk.injEq] at hl
   obtain⟨rfl,rfl⟩:=hl
   simp only[go_sem,qw,qK]
   exact Vj hk hnm
end Go.Proofs
namespace Go.Proofs
open Go Go.AL Tryz
theorem sN {T:List Tk} (hT:T.length≤100000) {pid:Nat} {e:PM Nd} (he:HC T pid 138 e):HC T pid 122 (FI T e):=by
 intro p r p' h K st hp hk
 refine zM (zE [] func122 rfl results122 ntmps122 ?_)
 unfold FI at h
 simp only[Option.bind_eq_some_iff,Prod.exists] at h
 obtain⟨t0,p1,h1,b0,p2,h2,h⟩:=h
 simp only[go_sem]
 refine VX hT h1 (zI hp) ?_
 simp only[go_sem,zb hp]
 refine Xl rfl rfl rfl rfl (fun _=>rfl) (ql (.inr rfl) (fun x hx=>by cases hx)) ?_
 unfold Q1
 cases b0 with
 | false =>
  simp only[Bool.false_eq_true,if_false,Option.some.injEq,Prod.mk.injEq] at h
  obtain⟨rfl,rfl⟩:=h
  simp only[go_sem,zb hp]
  refine YQ hT h2 (zm hp) ?_
  simp only[go_sem,zb hp]
  exact Ym (z1:=0) (z2:=0) (m1 :=.full) (m2 :=.full) (nd:=zT 26 t0.pos t0.text []) hk (.inr rfl) (.inr rfl)
 | true =>
  rw[if_pos rfl] at h
  simp only[go_sem,zb hp]
  refine YQ hT h2 (zm hp) ?_
  simp only[go_sem,zb hp]
  refine Z1 (st.length+2) 5 6 0 (Zg 2) (by simp) rfl ?_
  rw[QA]
  simp only[List.length_append,Xn,List.length_cons,List.length_nil,List.set_cons_succ,List.set_cons_zero,List.append_assoc,List.cons_append,List.nil_append,Nat.zero_add,Nat.reduceAdd]
  refine zN [] (fun m env s=>∃ (nd:Nd) (q:PS) (k:Nat) (b:Ob) (more:Bool) (ex:St),GX T e m more nd q=some (r,p')∧m+nd.kids.length≤T.length+2∧nd.names=[]∧env=[.ptr pid 0,.any,.ptr st.length 0,.any,.ptr (st.length+2) 0,.sc (.bool more),.any,.any,.any,.any,.any,.any,.any,.any,.any,.any,.any,.any,.any,.any,.any,.any,.any,.any,.any,.any,.any,.any,.any,.any,.any,.any,.any,.any,.any,.any,.any,.any,.any,.any] ∧
   s=st.set pid (.cells (Z9 T q))++(.cells qK::b :: .cells (qw (st.length+3) k nd) :: .tok k::ex)) (n:=T.length+2) ?_ ⟨_,_,0,_,_,[],h,by simp[zT,Nd.kids],rfl,rfl,rfl⟩ ?_
  ·repeat (first | exact zj | refine zk _ ?_ | refine zg _ ?_ | refine zf _ ?_)
  rintro m env s ⟨nd,q,k,b,more,ex,hl,hm,hnm,rfl,rfl⟩
  cases m with
  | zero=>cases hl
  | succ m =>
  simp only[GX] at hl
  have y:=zV (QN (p':=q) hp)
  unfold Z9 at y
  cases more with
  | false =>
   simp only[Bool.false_eq_true,false_and,if_false,Option.some.injEq,Prod.mk.injEq] at hl
   obtain⟨rfl,rfl⟩:=hl
   simp only[go_sem,qw,qK]
   exact Vj hk hnm
  | true =>
   by_cases h0:q.e=0
   ·have c1:(q.e==0)=true:=by simp[h0]
    rw[if_pos ⟨rfl,h0⟩] at hl
    simp only[Option.bind_eq_some_iff,Prod.exists] at hl
    obtain⟨q1,h3,x,q2,h4,b2,q3,h5,hl⟩:=hl
    unfold Z9 qw
    simp only[go_sem,y.1,y.2.1,y.2.2,c1]
    refine Y5 (p':=q1) (n:=nd.kids.length) (by simpa using h3) (zm hp) fun _=>?_
    simp only[go_sem,zb hp]
    refine zP [] [(0,[5]),(0,[5]),(0,[]),(3,[5]),(0,[]),(3,[7]),(0,[]),(1,[8])] mixed rfl ?_
    simp only[go_sem,zy,zu,zw,zt,zr,zG,zH,zx,zh,qK]
    refine⟨_,_,Wk he rfl h4 (zm hp) ⟨rfl,rfl⟩,?_⟩
    simp only[go_sem,zy,zu,zw,zt,zr,zG,zH,zx,zh,zb hp]
    rw[zL]
    refine⟨.slice .full 6 [zJ x],?_,?_⟩
    ·simp only[go_sem]
     exact⟨⟨[],by simp⟩,qb _ _ (.inr rfl) _ [_],.inl rfl⟩
    simp only[go_sem,zy,zu,zw,zt,zr,zG,zH,zx,zh]
    refine⟨_,_,⟨Tryz.app6 (by omega),rfl,rfl⟩,?_⟩
    simp only[go_sem]
    refine YQ hT h5 (zm hp) ?_
    simp only[go_sem,zb hp]
    refine⟨m,_,by omega,?_,nd.addKid x,q3,k+1,b,b2,_,hl,by rw[qc];simp;omega,by rw[qs];exact hnm,rfl,by rw[qV,qU,Zq,Zp,qc,List.map_append];rfl⟩
    repeat (first | exact zj | refine zk _ ?_ | refine zg _ ?_ | refine zf _ ?_)
   ·have c1:(q.e==0)=false:=by simp[h0]
    rw[if_neg (by simp[h0])] at hl
    simp only[Option.some.injEq,Prod.mk.injEq] at hl
    obtain⟨rfl,rfl⟩:=hl
    unfold Z9 qw qK
    simp only[go_sem,y.1,y.2.1,y.2.2,c1]
    exact Vj hk hnm
end Go.Proofs
