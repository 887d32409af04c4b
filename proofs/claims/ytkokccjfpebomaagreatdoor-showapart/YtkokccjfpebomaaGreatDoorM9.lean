/- Types: tyapp. -/
import Derived.Test.YtkokccjfpebomaaGreatDoorN8
set_option maxHeartbeats 4000000
set_option linter.unusedSimpArgs false
set_option linter.unusedVariables false
set_option maxRecDepth 8000
namespace Go.Proofs
open Go Go.AL
theorem Tryz.app6 {n:Nat} (h:n≤1000000):AppOk Tryz.prog 24 24 6 n:=Jj Tryz.aelem24 Tryz.aelem24 Tryz.asize26 Tryz.azero26 rfl Tryz.abytes26 (by omega) h
theorem zAJ {T:List Tk} (hT:T.length≤100000) {pid:Nat} {e:PM Nd} (he:HC T pid 138 e):HC T pid 138 (tyS T e):=by
 intro p r p' h K st hp hk
 refine zK (zC [] Tryz.func138 rfl Tryz.results138 Tryz.ntmps138 ?_)
 unfold tyS at h
 simp only[Option.bind_eq_some_iff,Prod.exists] at h
 obtain⟨t0,p1,h1,h⟩:=h
 simp only[go_sem]
 refine VW hT h1 (zG hp) ?_
 simp only[go_sem,za hp]
 refine Q7 rfl rfl rfl rfl (fun _=>rfl) (qf (.inr rfl) (fun x hx=>by cases hx)) ?_
 unfold QM
 simp only[go_sem,za hp]
 refine ZU (st.length+2) 5 6 0 (qY 2) (by simp) rfl ?_
 rw[Qi]
 simp only[List.length_append,Q9,List.length_cons,List.length_nil,List.set_cons_succ,List.set_cons_zero,List.append_assoc,List.cons_append,List.nil_append,Nat.zero_add,Nat.reduceAdd]
 refine zM [] (fun m env s=>∃ (nd:Nd) (q:PS) (k:Nat) (b:Ob) (ex:St),tyL T e m nd q=some (r,p')∧m+nd.kids.length≤T.length+2∧nd.names=[]∧env=[.ptr pid 0,.any,.ptr st.length 0,.any,.ptr (st.length+2) 0,.any,.any,.any,.any,.any,.any,.any,.any,.any,.any,.any,.any,.any,.any,.any,.any,.any,.any,.any,.any,.any,.any,.any,.any,.any,.any,.any,.any,.any,.any,.any,.any,.any,.any,.any,.any,.any] ∧
  s=st.set pid (.cells (ZX T q))++(.cells qD::b :: .cells (qq (st.length+3) k nd) :: .tok k::ex)) (n:=T.length+2) ?_ ⟨_,_,0,_,[],h,by simp[zR,Nd.kids],rfl,rfl,rfl⟩ ?_
 ·repeat (first | exact zi | refine zh _ ?_ | refine zf _ ?_ | refine ze _ ?_)
 rintro m env s ⟨nd,q,k,b,ex,hl,hm,hnm,rfl,rfl⟩
 cases m with
 | zero=>cases hl
 | succ m =>
 simp only[tyL,Option.bind_eq_some_iff] at hl
 obtain⟨t,h2,hl⟩:=hl
 simp only[go_sem]
 refine qp h2 (zl hp) ?_
 have hle:k+1≤k+1:=Nat.le_refl _
 by_cases h3:t.kind=3
 ·have c1:(t.kind==3)=true:=by simp[h3]
  rw[if_pos h3,Option.bind_eq_some_iff] at hl
  obtain⟨⟨t1,q1⟩,h4,hl⟩:=hl
  simp only[go_sem,c1]
  refine QC hT h4 (zl hp) ?_
  simp only[go_sem,za hp]
  refine zO [] [(0,[8]),(0,[8]),(0,[]),(0,[]),(0,[]),(0,[]),(3,[8]),(0,[]),(3,[10]),(0,[]),(1,[11])] Tryz.mixed rfl ?_
  simp only[go_sem,zw,zt,zr,zp,zq,zE,zF,zu,zg,qq,qD]
  refine⟨_,_,JK (kids:=[]) (.inr rfl) ⟨rfl,rfl⟩,?_⟩
  simp only[go_sem,zw,zt,zr,zp,zq,zE,zF,zu,zg]
  rw[zJ]
  refine⟨.slice .full 6 [zH (zR 27 t.pos t.text [])],?_,?_⟩
  ·simp only[go_sem]
   exact⟨⟨[],by simp⟩,zY _ _ (.inr rfl) _ [_],.inl rfl⟩
  simp only[go_sem,zw,zt,zr,zp,zq,zE,zF,zu,zg]
  refine⟨_,_,⟨Tryz.app6 (by omega),rfl,rfl⟩,?_⟩
  simp only[go_sem]
  refine⟨m,_,by omega,?_,nd.addKid (zR 27 t.pos t.text []),q1,k+1,b,_,hl,by rw[z8];simp;omega,by rw[qm];exact hnm,rfl,by rw[qM,qO,Zf,Zg,z8,List.map_append];rfl⟩
  repeat (first | exact zi | refine zh _ ?_ | refine zf _ ?_ | refine ze _ ?_)
 ·have c1:(t.kind==3)=false:=by simp[h3]
  rw[if_neg h3] at hl
  unfold Y1 at hl
  rw[h2] at hl
  simp only[Option.map_some,Option.bind_some] at hl
  simp only[go_sem,c1]
  refine Zs h2 (zl hp) ?_
  cases hb:isT t [40] with
  | true =>
   rw[hb] at hl
   simp only[if_true,Option.bind_eq_some_iff,Prod.exists] at hl
   obtain⟨x,q1,h4,hl⟩:=hl
   simp only[go_sem]
   refine zO [] [(0,[5]),(0,[5]),(0,[]),(3,[5]),(0,[]),(3,[7]),(0,[]),(1,[8])] Tryz.mixed rfl ?_
   simp only[go_sem,zw,zt,zr,zp,zq,zE,zF,zu,zg,qq,qD]
   refine⟨_,_,zmq hT he rfl h4 (zl hp) ⟨rfl,rfl⟩,?_⟩
   simp only[go_sem,zw,zt,zr,zp,zq,zE,zF,zu,zg,za hp]
   rw[zJ]
   refine⟨.slice .full 6 [zH x],?_,?_⟩
   ·simp only[go_sem]
    exact⟨⟨[],by simp⟩,zY _ _ (.inr rfl) _ [_],.inl rfl⟩
   simp only[go_sem,zw,zt,zr,zp,zq,zE,zF,zu,zg]
   refine⟨_,_,⟨Tryz.app6 (by omega),rfl,rfl⟩,?_⟩
   simp only[go_sem]
   refine⟨m,_,by omega,?_,nd.addKid x,q1,k+1,b,_,hl,by rw[z8];simp;omega,by rw[qm];exact hnm,rfl,by rw[qM,qO,Zf,Zg,z8,List.map_append];rfl⟩
   repeat (first | exact zi | refine zh _ ?_ | refine zf _ ?_ | refine ze _ ?_)
  | false =>
   rw[hb] at hl
   simp only[Bool.false_eq_true,if_false,Option.some.injEq,Prod.mk.injEq] at hl
   obtain⟨rfl,rfl⟩:=hl
   simp only[go_sem,qq,qD]
   exact JT hk hnm
end Go.Proofs
namespace Go.Proofs
open Go Go.AL
theorem zzd {T:List Tk} (hT:T.length≤100000) {pid:Nat} {e:PM Nd} (he:HC T pid 138 e):HC T pid 122 (zh5 T e):=by
 intro p r p' h K st hp hk
 refine zK (zC [] Tryz.func122 rfl Tryz.results122 Tryz.ntmps122 ?_)
 unfold zh5 at h
 simp only[Option.bind_eq_some_iff,Prod.exists] at h
 obtain⟨t0,p1,h1,b0,p2,h2,h⟩:=h
 simp only[go_sem]
 refine VW hT h1 (zG hp) ?_
 simp only[go_sem,za hp]
 refine Q7 rfl rfl rfl rfl (fun _=>rfl) (qf (.inr rfl) (fun x hx=>by cases hx)) ?_
 unfold QM
 cases b0 with
 | false =>
  simp only[Bool.false_eq_true,if_false,Option.some.injEq,Prod.mk.injEq] at h
  obtain⟨rfl,rfl⟩:=h
  simp only[go_sem,za hp]
  refine Yv hT h2 (zl hp) ?_
  simp only[go_sem,za hp]
  exact XT (z1:=0) (z2:=0) (m1 :=.full) (m2 :=.full) (nd:=zR 26 t0.pos t0.text []) hk (.inr rfl) (.inr rfl)
 | true =>
  rw[if_pos rfl] at h
  simp only[go_sem,za hp]
  refine Yv hT h2 (zl hp) ?_
  simp only[go_sem,za hp]
  refine ZU (st.length+2) 5 6 0 (qY 2) (by simp) rfl ?_
  rw[Qi]
  simp only[List.length_append,Q9,List.length_cons,List.length_nil,List.set_cons_succ,List.set_cons_zero,List.append_assoc,List.cons_append,List.nil_append,Nat.zero_add,Nat.reduceAdd]
  refine zM [] (fun m env s=>∃ (nd:Nd) (q:PS) (k:Nat) (b:Ob) (more:Bool) (ex:St),zfE T e m more nd q=some (r,p')∧m+nd.kids.length≤T.length+2∧nd.names=[]∧env=[.ptr pid 0,.any,.ptr st.length 0,.any,.ptr (st.length+2) 0,.sc (.bool more),.any,.any,.any,.any,.any,.any,.any,.any,.any,.any,.any,.any,.any,.any,.any,.any,.any,.any,.any,.any,.any,.any,.any,.any,.any,.any,.any,.any,.any,.any,.any,.any,.any,.any] ∧
   s=st.set pid (.cells (ZX T q))++(.cells qD::b :: .cells (qq (st.length+3) k nd) :: .tok k::ex)) (n:=T.length+2) ?_ ⟨_,_,0,_,_,[],h,by simp[zR,Nd.kids],rfl,rfl,rfl⟩ ?_
  ·repeat (first | exact zi | refine zh _ ?_ | refine zf _ ?_ | refine ze _ ?_)
  rintro m env s ⟨nd,q,k,b,more,ex,hl,hm,hnm,rfl,rfl⟩
  cases m with
  | zero=>cases hl
  | succ m =>
  simp only[zfE] at hl
  have y:=zT (Qy (p':=q) hp)
  unfold ZX at y
  cases more with
  | false =>
   simp only[Bool.false_eq_true,false_and,if_false,Option.some.injEq,Prod.mk.injEq] at hl
   obtain⟨rfl,rfl⟩:=hl
   simp only[go_sem,qq,qD]
   exact JT hk hnm
  | true =>
   by_cases h0:q.e=0
   ·have c1:(q.e==0)=true:=by simp[h0]
    rw[if_pos ⟨rfl,h0⟩] at hl
    simp only[Option.bind_eq_some_iff,Prod.exists] at hl
    obtain⟨q1,h3,x,q2,h4,b2,q3,h5,hl⟩:=hl
    unfold ZX qq
    simp only[go_sem,y.1,y.2.1,y.2.2,c1]
    refine YD (p':=q1) (n:=nd.kids.length) (by simpa using h3) (zl hp) fun _=>?_
    simp only[go_sem,za hp]
    refine zO [] [(0,[5]),(0,[5]),(0,[]),(3,[5]),(0,[]),(3,[7]),(0,[]),(1,[8])] Tryz.mixed rfl ?_
    simp only[go_sem,zw,zt,zr,zp,zq,zE,zF,zu,zg,qD]
    refine⟨_,_,VJ he rfl h4 (zl hp) ⟨rfl,rfl⟩,?_⟩
    simp only[go_sem,zw,zt,zr,zp,zq,zE,zF,zu,zg,za hp]
    rw[zJ]
    refine⟨.slice .full 6 [zH x],?_,?_⟩
    ·simp only[go_sem]
     exact⟨⟨[],by simp⟩,zY _ _ (.inr rfl) _ [_],.inl rfl⟩
    simp only[go_sem,zw,zt,zr,zp,zq,zE,zF,zu,zg]
    refine⟨_,_,⟨Tryz.app6 (by omega),rfl,rfl⟩,?_⟩
    simp only[go_sem]
    refine Yv hT h5 (zl hp) ?_
    simp only[go_sem,za hp]
    refine⟨m,_,by omega,?_,nd.addKid x,q3,k+1,b,b2,_,hl,by rw[z8];simp;omega,by rw[qm];exact hnm,rfl,by rw[qM,qO,Zf,Zg,z8,List.map_append];rfl⟩
    repeat (first | exact zi | refine zh _ ?_ | refine zf _ ?_ | refine ze _ ?_)
   ·have c1:(q.e==0)=false:=by simp[h0]
    rw[if_neg (by simp[h0])] at hl
    simp only[Option.some.injEq,Prod.mk.injEq] at hl
    obtain⟨rfl,rfl⟩:=hl
    unfold ZX qq qD
    simp only[go_sem,y.1,y.2.1,y.2.2,c1]
    exact JT hk hnm
end Go.Proofs
