/- match. -/
import Derived.Test.YtkokccjfpebomaaGreatDoorW7
import Derived.Test.YtkokccjfpebomaaGreatDoorM9
import Derived.Test.YtkokccjfpebomaaGreatDoorA9
set_option maxHeartbeats 4000000
set_option linter.unusedSimpArgs false
set_option linter.unusedVariables false
set_option maxRecDepth 8000
namespace Go.AL
theorem zj2 (n:Nd) (c:List Nd):(n.addKids c).kind=n.kind:=by cases n;rfl
theorem zjT (n:Nd) (c:List Nd):(n.addKids c).text=n.text:=by cases n;rfl
theorem zl4 (n:Nd) (c:List Nd):(n.addKids c).num=n.num:=by cases n;rfl
theorem zmg (n:Nd) (c:List Nd):(n.addKids c).pos=n.pos:=by cases n;rfl
theorem zgR (n:Nd) (c:List Nd):(n.addKids c).names=n.names:=by cases n;rfl
theorem zb4 (n:Nd) (c:List Nd):(n.addKids c).kids=n.kids++c:=by cases n;rfl
end Go.AL
namespace Go.Proofs
open Go Go.AL
theorem znu {n:Nat} (h:n≤1000000):IntKind.i64.wrap (Int.tdiv (n:Int) 2)=Int.tdiv (n:Int) 2:=by
 have:Int.tdiv (n:Int) 2=((n / 2:Nat):Int):=by simp[Int.tdiv]
 rw[this,IntWalk.i64_in _ (by omega)]
theorem zsE {T:List Tk} (hT:T.length≤100000) {pid:Nat} {e pt:PM Nd} (he:HC T pid 79 e) (hpt:HC T pid 170 pt):HC T pid 161 (VX T e pt):=by
 intro p r p' h K st hp hk
 refine zK (zC [] Tryz.func161 rfl Tryz.results161 Tryz.ntmps161 ?_)
 unfold VX at h
 simp only[Option.bind_eq_some_iff,Option.map_eq_some_iff,Prod.exists,Prod.mk.injEq] at h
 obtain⟨t0,p1,h1,v,p2,h2,p3,h3,n1,p4,h4,p5,h5,rfl,rfl⟩:=h
 simp only[go_sem]
 refine QC hT h1 (zG hp) ?_
 simp only[go_sem,za hp]
 first | (unfold zk;simp only[zd,zb,zo,List.set_cons_succ,List.set_cons_zero,List.getD_cons_succ,List.getD_cons_zero]) | skip
 refine VF hT he _ _ _ h2 _ _ (zl hp) ?_
 simp only[go_sem,za hp]
 first | (unfold zk;simp only[zd,zb,zo,List.set_cons_succ,List.set_cons_zero,List.getD_cons_succ,List.getD_cons_zero]) | skip
 refine Q7 rfl rfl rfl rfl (fun _=>rfl) (zY _ _ (.inr rfl) 6 [v]) ?_
 unfold QM
 simp only[go_sem,za hp]
 first | (unfold zk;simp only[zd,zb,zo,List.set_cons_succ,List.set_cons_zero,List.getD_cons_succ,List.getD_cons_zero]) | skip
 refine ZQ hT h3 (zl hp) fun _=>?_
 simp only[go_sem,za hp]
 refine zoA (st.length+1) 5 6 [zH v] (qY 1) (by simp) rfl ?_
 rw[Qi]
 simp only[List.length_append,Q9,List.length_cons,List.length_nil,List.set_cons_succ,List.set_cons_zero,List.append_assoc,List.cons_append,List.nil_append,Nat.zero_add,Nat.reduceAdd]
 refine zM [] (fun m env s=>∃ (nd:Nd) (q:PS) (k:Nat) (first:Bool) (ex:St),XS T e pt m first nd q=some (n1,p4)∧2*m+nd.kids.length≤2*T.length+5∧nd.names=[]∧env=[.ptr pid 0,.any,.ptr st.length 0,.any,.ptr (st.length+1) 0,.sc (.bool first),.any,.any,.any,.any,.any,.any,.any,.any,.any,.any,.any,.any,.any,.any,.any,.any,.any,.any,.any,.any,.any,.any,.any,.any,.any,.any,.any,.any,.any,.any,.any,.any,.any,.any,.any,.any,.any,.any,.any] ∧
  s=st.set pid (.cells (ZX T q))++(.cells qD :: .cells (qq (st.length+2) k nd) :: .tok k::ex)) (n:=T.length+2) ?_ ⟨_,_,0,true,[],h4,by simp[zR,Nd.kids];omega,rfl,rfl,rfl⟩ ?_
 ·repeat (first | exact zi | refine zh _ ?_ | refine zf _ ?_ | refine ze _ ?_)
 rintro m env s ⟨nd,q,k,first,ex,hl,hm,hnm,rfl,rfl⟩
 cases m with
 | zero=>cases hl
 | succ m =>
 simp only[XS,Option.bind_eq_some_iff] at hl
 obtain⟨b,hb,hl⟩:=hl
 have hhw:=znu (n:=nd.kids.length) (by omega)
 cases b with
 | false =>
  cases first with
  | true=>cases hb
  | false =>
   simp only[Bool.false_eq_true,if_false,Option.some.injEq,Prod.mk.injEq] at hl hb
   obtain⟨rfl,rfl⟩:=hl
   unfold Y1 at hb
   rw[Option.map_eq_some_iff] at hb
   obtain⟨t,h6,h7⟩:=hb
   simp only[go_sem]
   refine Zs h6 (zl hp) ?_
   simp only[go_sem,h7,za hp]
   refine ZQ hT h5 (zl hp) fun _=>?_
   simp only[go_sem,za hp,qq,qD]
   exact JT hk hnm
 | true =>
  simp only[if_true,Option.bind_eq_some_iff,Prod.exists] at hl
  obtain⟨q1,h8,q2,h9,x,q3,h10,q4,h11,y,q5,h12,hl⟩:=hl
  cases first with
  | true =>
   unfold qq
   simp only[go_sem,hhw]
   refine YD (p':=q1) (n:=Int.tdiv nd.kids.length 2) (by simpa using h8) (zl hp) fun _=>?_
   simp only[go_sem,za hp]
   first | (unfold zk;simp only[zd,zb,zo,List.set_cons_succ,List.set_cons_zero,List.getD_cons_succ,List.getD_cons_zero]) | skip
   refine ZQ hT h9 (zl hp) fun _=>?_
   simp only[go_sem,za hp]
   first | (unfold zk;simp only[zd,zb,zo,List.set_cons_succ,List.set_cons_zero,List.getD_cons_succ,List.getD_cons_zero]) | skip
   refine VJ hpt rfl h10 (zl hp) ?_
   simp only[go_sem,za hp]
   first | (unfold zk;simp only[zd,zb,zo,List.set_cons_succ,List.set_cons_zero,List.getD_cons_succ,List.getD_cons_zero]) | skip
   refine ZQ hT h11 (zl hp) fun _=>?_
   simp only[go_sem,za hp]
   refine zO [] [(0,[6]),(0,[6]),(0,[6]),(0,[]),(3,[6]),(0,[]),(3,[8]),(0,[]),(1,[9])] Tryz.mixed rfl ?_
   simp only[go_sem,zw,zt,zr,zp,zq,zE,zF,zu,zg,qD]
   refine⟨_,_,VF hT he _ _ _ h12 _ _ (zl hp) ⟨rfl,rfl⟩,?_⟩
   simp only[go_sem,zw,zt,zr,zp,zq,zE,zF,zu,zg,za hp]
   rw[zJ]
   refine⟨.slice .full 6 [zH x,zH y],?_,?_⟩
   ·simp only[go_sem]
    exact⟨⟨[],by simp⟩,zY _ _ (.inr rfl) _ [_,_],.inl rfl⟩
   simp only[go_sem,zw,zt,zr,zp,zq,zE,zF,zu,zg]
   refine⟨_,_,⟨Tryz.app6 (by omega),rfl,rfl⟩,?_⟩
   simp only[go_sem]
   refine⟨m,_,by omega,?_,nd.addKids [x,y],q5,k+1,false,_,hl,by rw[zb4];simp;omega,by rw[zgR];exact hnm,rfl,by rw[zj2,zjT,zl4,zmg,zb4,List.map_append];rfl⟩
   repeat (first | exact zi | refine zh _ ?_ | refine zf _ ?_ | refine ze _ ?_)
  | false =>
   unfold Y1 at hb
   simp only[Bool.false_eq_true,if_false,Option.map_eq_some_iff] at hb
   obtain⟨t,h6,h7⟩:=hb
   unfold qq
   simp only[go_sem]
   refine Zs h6 (zl hp) ?_
   simp only[go_sem,h7,hhw]
   first | (unfold zk;simp only[zd,zb,zo,List.set_cons_succ,List.set_cons_zero,List.getD_cons_succ,List.getD_cons_zero]) | skip
   refine YD (p':=q1) (n:=Int.tdiv nd.kids.length 2) (by simpa using h8) (zl hp) fun _=>?_
   simp only[go_sem,za hp]
   first | (unfold zk;simp only[zd,zb,zo,List.set_cons_succ,List.set_cons_zero,List.getD_cons_succ,List.getD_cons_zero]) | skip
   refine ZQ hT h9 (zl hp) fun _=>?_
   simp only[go_sem,za hp]
   first | (unfold zk;simp only[zd,zb,zo,List.set_cons_succ,List.set_cons_zero,List.getD_cons_succ,List.getD_cons_zero]) | skip
   refine VJ hpt rfl h10 (zl hp) ?_
   simp only[go_sem,za hp]
   first | (unfold zk;simp only[zd,zb,zo,List.set_cons_succ,List.set_cons_zero,List.getD_cons_succ,List.getD_cons_zero]) | skip
   refine ZQ hT h11 (zl hp) fun _=>?_
   simp only[go_sem,za hp]
   refine zO [] [(0,[6]),(0,[6]),(0,[6]),(0,[]),(3,[6]),(0,[]),(3,[8]),(0,[]),(1,[9])] Tryz.mixed rfl ?_
   simp only[go_sem,zw,zt,zr,zp,zq,zE,zF,zu,zg,qD]
   refine⟨_,_,VF hT he _ _ _ h12 _ _ (zl hp) ⟨rfl,rfl⟩,?_⟩
   simp only[go_sem,zw,zt,zr,zp,zq,zE,zF,zu,zg,za hp]
   rw[zJ]
   refine⟨.slice .full 6 [zH x,zH y],?_,?_⟩
   ·simp only[go_sem]
    exact⟨⟨[],by simp⟩,zY _ _ (.inr rfl) _ [_,_],.inl rfl⟩
   simp only[go_sem,zw,zt,zr,zp,zq,zE,zF,zu,zg]
   refine⟨_,_,⟨Tryz.app6 (by omega),rfl,rfl⟩,?_⟩
   simp only[go_sem]
   refine⟨m,_,by omega,?_,nd.addKids [x,y],q5,k+1,false,_,hl,by rw[zb4];simp;omega,by rw[zgR];exact hnm,rfl,by rw[zj2,zjT,zl4,zmg,zb4,List.map_append];rfl⟩
   repeat (first | exact zi | refine zh _ ?_ | refine zf _ ?_ | refine ze _ ?_)
end Go.Proofs
