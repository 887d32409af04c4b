/- match. -/
import Derived.Test.YtkokccjfpebomaaGreatDoorW7
import Derived.Test.YtkokccjfpebomaaGreatDoorM9
import Derived.Test.YtkokccjfpebomaaGreatDoorA9
set_option maxHeartbeats 4000000
set_option linter.unusedSimpArgs false
set_option linter.unusedVariables false
set_option maxRecDepth 8000
namespace Go.AL
theorem jp (n:Nd) (c:List Nd):(n.addKids c).kind=n.kind:=by cases n;rfl
theorem L5 (n:Nd) (c:List Nd):(n.addKids c).text=n.text:=by cases n;rfl
theorem uF (n:Nd) (c:List Nd):(n.addKids c).num=n.num:=by cases n;rfl
theorem ug (n:Nd) (c:List Nd):(n.addKids c).pos=n.pos:=by cases n;rfl
theorem BK (n:Nd) (c:List Nd):(n.addKids c).names=n.names:=by cases n;rfl
theorem UI (n:Nd) (c:List Nd):(n.addKids c).kids=n.kids++c:=by cases n;rfl
end Go.AL
namespace Go.Proofs
open Go Go.AL Tryz
theorem yR {n:Nat} (h:n≤1000000):IntKind.i64.wrap (Int.tdiv (n:Int) 2)=Int.tdiv (n:Int) 2:=by
 have:Int.tdiv (n:Int) 2=((n / 2:Nat):Int):=by simp[Int.tdiv]
 rw[this,IntWalk.i64_in _ (by omega)]
theorem bB {T:List Tk} (hT:T.length≤100000) {pid:Nat} {e pt:PM Nd} (he:HC T pid 79 e) (hpt:HC T pid 170 pt):HC T pid 161 (Jr T e pt):=by
 intro p r p' h K st hp hk
 refine zM (zE [] func161 rfl results161 ntmps161 ?_)
 unfold Jr at h
 simp only[Option.bind_eq_some_iff,Option.map_eq_some_iff,Prod.exists,Prod.mk.injEq] at h
 obtain⟨t0,p1,h1,v,p2,h2,p3,h3,n1,p4,h4,p5,h5,rfl,rfl⟩:=h
 simp only[go_sem]
 refine QQ hT h1 (zI hp) ?_
 simp only[go_sem,zb hp]
 first | (unfold zl;simp only[ze,zc,zq,List.set_cons_succ,List.set_cons_zero,List.getD_cons_succ,List.getD_cons_zero]) | skip
 refine V0 hT he _ _ _ h2 _ _ (zm hp) ?_
 simp only[go_sem,zb hp]
 first | (unfold zl;simp only[ze,zc,zq,List.set_cons_succ,List.set_cons_zero,List.getD_cons_succ,List.getD_cons_zero]) | skip
 refine Xl rfl rfl rfl rfl (fun _=>rfl) (qb _ _ (.inr rfl) 6 [v]) ?_
 unfold Q1
 simp only[go_sem,zb hp]
 first | (unfold zl;simp only[ze,zc,zq,List.set_cons_succ,List.set_cons_zero,List.getD_cons_succ,List.getD_cons_zero]) | skip
 refine Z2 hT h3 (zm hp) fun _=>?_
 simp only[go_sem,zb hp]
 refine gN (st.length+1) 5 6 [zJ v] (Zg 1) (by simp) rfl ?_
 rw[QA]
 simp only[List.length_append,Xn,List.length_cons,List.length_nil,List.set_cons_succ,List.set_cons_zero,List.append_assoc,List.cons_append,List.nil_append,Nat.zero_add,Nat.reduceAdd]
 refine zN [] (fun m env s=>∃ (nd:Nd) (q:PS) (k:Nat) (first:Bool) (ex:St),XF T e pt m first nd q=some (n1,p4)∧2*m+nd.kids.length≤2*T.length+5∧nd.names=[]∧env=[.ptr pid 0,.any,.ptr st.length 0,.any,.ptr (st.length+1) 0,.sc (.bool first),.any,.any,.any,.any,.any,.any,.any,.any,.any,.any,.any,.any,.any,.any,.any,.any,.any,.any,.any,.any,.any,.any,.any,.any,.any,.any,.any,.any,.any,.any,.any,.any,.any,.any,.any,.any,.any,.any,.any] ∧
  s=st.set pid (.cells (Z9 T q))++(.cells qK :: .cells (qw (st.length+2) k nd) :: .tok k::ex)) (n:=T.length+2) ?_ ⟨_,_,0,true,[],h4,by simp[zT,Nd.kids];omega,rfl,rfl,rfl⟩ ?_
 ·repeat (first | exact zj | refine zk _ ?_ | refine zg _ ?_ | refine zf _ ?_)
 rintro m env s ⟨nd,q,k,first,ex,hl,hm,hnm,rfl,rfl⟩
 cases m with
 | zero=>cases hl
 | succ m =>
 simp only[XF,Option.bind_eq_some_iff] at hl
 obtain⟨b,hb,hl⟩:=hl
 have hhw:=yR (n:=nd.kids.length) (by omega)
 cases b with
 | false =>
  cases first with
  | true=>cases hb
  | false =>
   simp only[Bool.false_eq_true,if_false,Option.some.injEq,Prod.mk.injEq] at hl hb
   obtain⟨rfl,rfl⟩:=hl
   unfold Jn at hb
   rw[Option.map_eq_some_iff] at hb
   obtain⟨t,h6,h7⟩:=hb
   simp only[go_sem]
   refine ZB h6 (zm hp) ?_
   simp only[go_sem,h7,zb hp]
   refine Z2 hT h5 (zm hp) fun _=>?_
   simp only[go_sem,zb hp,qw,qK]
   exact Vj hk hnm
 | true =>
  simp only[if_true,Option.bind_eq_some_iff,Prod.exists] at hl
  obtain⟨q1,h8,q2,h9,x,q3,h10,q4,h11,y,q5,h12,hl⟩:=hl
  cases first with
  | true =>
   unfold qw
   simp only[go_sem,hhw]
   refine Y5 (p':=q1) (n:=Int.tdiv nd.kids.length 2) (by simpa using h8) (zm hp) fun _=>?_
   simp only[go_sem,zb hp]
   first | (unfold zl;simp only[ze,zc,zq,List.set_cons_succ,List.set_cons_zero,List.getD_cons_succ,List.getD_cons_zero]) | skip
   refine Z2 hT h9 (zm hp) fun _=>?_
   simp only[go_sem,zb hp]
   first | (unfold zl;simp only[ze,zc,zq,List.set_cons_succ,List.set_cons_zero,List.getD_cons_succ,List.getD_cons_zero]) | skip
   refine Wk hpt rfl h10 (zm hp) ?_
   simp only[go_sem,zb hp]
   first | (unfold zl;simp only[ze,zc,zq,List.set_cons_succ,List.set_cons_zero,List.getD_cons_succ,List.getD_cons_zero]) | skip
   refine Z2 hT h11 (zm hp) fun _=>?_
   simp only[go_sem,zb hp]
   refine zP [] [(0,[6]),(0,[6]),(0,[6]),(0,[]),(3,[6]),(0,[]),(3,[8]),(0,[]),(1,[9])] mixed rfl ?_
   simp only[go_sem,zy,zu,zw,zt,zr,zG,zH,zx,zh,qK]
   refine⟨_,_,V0 hT he _ _ _ h12 _ _ (zm hp) ⟨rfl,rfl⟩,?_⟩
   simp only[go_sem,zy,zu,zw,zt,zr,zG,zH,zx,zh,zb hp]
   rw[zL]
   refine⟨.slice .full 6 [zJ x,zJ y],?_,?_⟩
   ·simp only[go_sem]
    exact⟨⟨[],by simp⟩,qb _ _ (.inr rfl) _ [_,_],.inl rfl⟩
   simp only[go_sem,zy,zu,zw,zt,zr,zG,zH,zx,zh]
   refine⟨_,_,⟨Tryz.app6 (by omega),rfl,rfl⟩,?_⟩
   simp only[go_sem]
   refine⟨m,_,by omega,?_,nd.addKids [x,y],q5,k+1,false,_,hl,by rw[UI];simp;omega,by rw[BK];exact hnm,rfl,by rw[jp,L5,uF,ug,UI,List.map_append];rfl⟩
   repeat (first | exact zj | refine zk _ ?_ | refine zg _ ?_ | refine zf _ ?_)
  | false =>
   unfold Jn at hb
   simp only[Bool.false_eq_true,if_false,Option.map_eq_some_iff] at hb
   obtain⟨t,h6,h7⟩:=hb
   unfold qw
   simp only[go_sem]
   refine ZB h6 (zm hp) ?_
   simp only[go_sem,h7,hhw]
   first | (unfold zl;simp only[ze,zc,zq,List.set_cons_succ,List.set_cons_zero,List.getD_cons_succ,List.getD_cons_zero]) | skip
   refine Y5 (p':=q1) (n:=Int.tdiv nd.kids.length 2) (by simpa using h8) (zm hp) fun _=>?_
   simp only[go_sem,zb hp]
   first | (unfold zl;simp only[ze,zc,zq,List.set_cons_succ,List.set_cons_zero,List.getD_cons_succ,List.getD_cons_zero]) | skip
   refine Z2 hT h9 (zm hp) fun _=>?_
   simp only[go_sem,zb hp]
   first | (unfold zl;simp only[ze,zc,zq,List.set_cons_succ,List.set_cons_zero,List.getD_cons_succ,List.getD_cons_zero]) | skip
   refine Wk hpt rfl h10 (zm hp) ?_
   simp only[go_sem,zb hp]
   first | (unfold zl;simp only[ze,zc,zq,List.set_cons_succ,List.set_cons_zero,List.getD_cons_succ,List.getD_cons_zero]) | skip
   refine Z2 hT h11 (zm hp) fun _=>?_
   simp only[go_sem,zb hp]
   refine zP [] [(0,[6]),(0,[6]),(0,[6]),(0,[]),(3,[6]),(0,[]),(3,[8]),(0,[]),(1,[9])] mixed rfl ?_
   simp only[go_sem,zy,zu,zw,zt,zr,zG,zH,zx,zh,qK]
   refine⟨_,_,V0 hT he _ _ _ h12 _ _ (zm hp) ⟨rfl,rfl⟩,?_⟩
   simp only[go_sem,zy,zu,zw,zt,zr,zG,zH,zx,zh,zb hp]
   rw[zL]
   refine⟨.slice .full 6 [zJ x,zJ y],?_,?_⟩
   ·simp only[go_sem]
    exact⟨⟨[],by simp⟩,qb _ _ (.inr rfl) _ [_,_],.inl rfl⟩
   simp only[go_sem,zy,zu,zw,zt,zr,zG,zH,zx,zh]
   refine⟨_,_,⟨Tryz.app6 (by omega),rfl,rfl⟩,?_⟩
   simp only[go_sem]
   refine⟨m,_,by omega,?_,nd.addKids [x,y],q5,k+1,false,_,hl,by rw[UI];simp;omega,by rw[BK];exact hnm,rfl,by rw[jp,L5,uF,ug,UI,List.map_append];rfl⟩
   repeat (first | exact zj | refine zk _ ?_ | refine zg _ ?_ | refine zf _ ?_)
end Go.Proofs
