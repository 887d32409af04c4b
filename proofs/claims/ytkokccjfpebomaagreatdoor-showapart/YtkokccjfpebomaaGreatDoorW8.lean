/- let, try: regions where a variable is laid ahead of a call or behind it. -/
import Derived.Test.YtkokccjfpebomaaGreatDoorW7
import Derived.Test.YtkokccjfpebomaaGreatDoorN1
import Derived.Test.YtkokccjfpebomaaGreatDoorM9
set_option maxHeartbeats 4000000
set_option linter.unusedSimpArgs false
set_option linter.unusedVariables false
set_option maxRecDepth 8000
namespace Go.AL
variable {P:Program}
section
variable {M:List Nat} {ds:List (Option Tmp)} {ks:List Nat} {tbl:List (List Nat×St)} {i:Nat} {Ls:List (List (List Nat))} {o:Oper} {r:List Oper} {env:List SV} {K:List SV→Prop} {c c2 c3 c4:List Nat}
theorem zgV (hk:ks.contains i=false) (X:SV) (h1:Zx P M ds o env (XD tbl c) (fun x=>x=X)) (h2:Zx P M ds o env (XD tbl c2) (fun x=>x=X)) (h3:Zx P M ds o env (XD tbl c3) (fun x=>x=X)) (h4:Zx P M ds o env (XD tbl c4) (fun x=>x=X))
  (h:JC P M ds ks tbl (i+1) Ls r (Zz env o.dst X) K):JC P M ds ks tbl i ([c,c2,c3,c4]::Ls) (o::r) env K:=by
 refine⟨X,?_,h⟩
 rw[if_neg (by rw[hk];decide)]
 intro x hx
 simp only[List.mem_cons,List.not_mem_nil,or_false] at hx
 rcases hx with rfl | rfl | rfl | rfl
 ·exact h1
 ·exact h2
 ·exact h3
 ·exact h4
end
theorem zbU {k a:Int} {t:Tx} {x:SV} (n:Nat) (h:Ids n x):Ids n (QM k t 0 a x):=by
 unfold QM
 rw[ZW]
 simp only[List.forall_mem_cons,Yj,true_and]
 exact⟨qf (.inr rfl) (fun x hx=>by cases hx),h,fun x hx=>by cases hx⟩
def zlj (T:List Tk) (pid:Nat) (st:St) (p p':PS) (ex:St) (z n:List SV):List (List Nat×St) :=
 [([],st.set pid (.cells (ZX T p))++ex),([4],st.set pid (.cells (ZX T p'))++ex),([7],st.set pid (.cells (ZX T p))++(ex++[.cells z])),([4,7],st.set pid (.cells (ZX T p'))++(ex++[.cells z])),([4,7,8],st.set pid (.cells (ZX T p'))++(ex++[.cells n]))]
section
variable {T:List Tk} {pid:Nat} {st:St} {p p':PS} {ex:St} {z n:List SV}
theorem QG:XD (zlj T pid st p p' ex z n) []=st.set pid (.cells (ZX T p))++ex:=rfl
theorem QB:XD (zlj T pid st p p' ex z n) [4]=st.set pid (.cells (ZX T p'))++ex:=rfl
theorem QD:XD (zlj T pid st p p' ex z n) [7]=st.set pid (.cells (ZX T p))++(ex++[.cells z]):=rfl
theorem ZM:XD (zlj T pid st p p' ex z n) [4,7]=st.set pid (.cells (ZX T p'))++(ex++[.cells z]):=rfl
theorem Zn:XD (zlj T pid st p p' ex z n) [4,7,8]=st.set pid (.cells (ZX T p'))++(ex++[.cells n]):=rfl
end
end Go.AL
namespace Go.Proofs
open Go Go.AL
theorem zzt {T:List Tk} (hT:T.length≤100000) {pid:Nat} {e:PM Nd} (he:HC T pid 79 e):HC T pid 123 (zkO T e):=by
 intro p r p' h K st hp hk
 refine zK (zC [] Tryz.func123 rfl Tryz.results123 Tryz.ntmps123 ?_)
 unfold zkO at h
 simp only[Option.bind_eq_some_iff,Option.map_eq_some_iff,Prod.exists,Prod.mk.injEq] at h
 obtain⟨t0,p1,h1,nm,rc,v,p2,h2,p3,h3,x,p4,h4,rfl,rfl⟩:=h
 simp only[go_sem]
 refine QC hT h1 (zG hp) ?_
 simp only[go_sem,za hp]
 first | (unfold zk;simp only[zd,zb,zo,List.set_cons_succ,List.set_cons_zero,List.getD_cons_succ,List.getD_cons_zero]) | skip
 refine zhR hT he _ _ _ _ _ h2 _ _ (zl hp) ?_
 simp only[go_sem,za hp]
 first | (unfold zk;simp only[zd,zb,zo,List.set_cons_succ,List.set_cons_zero,List.getD_cons_succ,List.getD_cons_zero]) | skip
 refine ZQ hT h3 (zl hp) fun _=>?_
 simp only[go_sem,za hp]
 refine qI [] [4,7,8] (zlj T pid st p3 p4 [.cells qD,.cells (zH v).cells] qD [.sc (.int .i64 8),.sc (.string (ba nm)),.sc (.int .i64 0),.sc (.int .i64 t0.pos),.slice .full 0 [],.slice .full 6 [zH v,zH x]])
  [[[],[7],[4],[4,7]],[[],[7],[4],[4,7]],[[],[7],[4],[4,7]],[[],[7]],[[],[7]],[[4],[4,7]],[[4],[4,7]],[[],[4]],[[4,7]]] Tryz.mixed rfl rfl rfl rfl rfl ?_
 refine zgV rfl (.sc (.int .i64 t0.pos)) (by simp only[go_sem]) (by simp only[go_sem]) (by simp only[go_sem]) (by simp only[go_sem]) ?_
 refine zgV rfl (.sc (.string (ba nm))) (by simp only[go_sem]) (by simp only[go_sem]) (by simp only[go_sem]) (by simp only[go_sem]) ?_
 refine zgV rfl (zH v) (by simp only[go_sem,QG,QB,QD,ZM,Zn]) (by simp only[go_sem,QG,QB,QD,ZM,Zn]) (by simp only[go_sem,QG,QB,QD,ZM,Zn]) (by simp only[go_sem,QG,QB,QD,ZM,Zn]) ?_
 refine zV rfl (.ptr pid 0) (by simp only[go_sem]) (by simp only[go_sem]) ?_
 refine Z8 (d:=[4]) (d2:=[4,7]) rfl rfl rfl (zH x) rfl ?_ ?_ ?_
 ·simp only[go_sem,QG,QB,QD,ZM,Zn]
  refine VJ he rfl h4 (zl hp) ?_
  simp only[go_sem,za hp]
 ·simp only[go_sem,QG,QB,QD,ZM,Zn]
  refine VJ he rfl h4 (zl hp) ?_
  simp only[go_sem,za hp]
 refine zV rfl (.slice .full 6 [zH v,zH x]) ?_ ?_ ?_
 ·simp only[go_sem]
  refine⟨_,?_,rfl⟩
  simp only[go_sem]
  exact⟨⟨[],by simp⟩,zY _ _ (.inr rfl) _ [_,_],.inl rfl⟩
 ·simp only[go_sem]
  refine⟨_,?_,rfl⟩
  simp only[go_sem]
  exact⟨⟨[],by simp⟩,zY _ _ (.inr rfl) _ [_,_],.inl rfl⟩
 refine zV rfl (QM 8 nm 0 t0.pos (.slice .full 6 [zH v,zH x])) ?_ ?_ ?_
 ·simp only[go_sem]
  rw[zJ]
  refine⟨_,?_,rfl⟩
  simp only[go_sem]
  refine Q7 rfl rfl rfl rfl (fun _=>rfl) (zY _ _ (.inr rfl) 6 [v,x]) ?_
  exact⟨⟨[],by simp⟩,zbU _ (zY _ _ (.inr rfl) 6 [v,x]),.inl rfl⟩
 ·simp only[go_sem]
  rw[zJ]
  refine⟨_,?_,rfl⟩
  simp only[go_sem]
  refine Q7 rfl rfl rfl rfl (fun _=>rfl) (zY _ _ (.inr rfl) 6 [v,x]) ?_
  exact⟨⟨[],by simp⟩,zbU _ (zY _ _ (.inr rfl) 6 [v,x]),.inl rfl⟩
 refine Z8 (d:=[7]) (d2:=[4,7]) rfl rfl rfl (.ptr (st.length+2) 0) rfl ?_ ?_ ?_
 ·simp only[go_sem,QG,QB,QD,ZM,Zn,qD]
 ·simp only[go_sem,QG,QB,QD,ZM,Zn,qD]
 refine Zy (d:=[4,7,8]) rfl rfl .any rfl ?_ ?_
 ·unfold QM
  simp only[go_sem,QG,QB,QD,ZM,Zn,qD]
 refine ZZ ?_
 cases rc with
 | true =>
  simp only[go_sem,QG,QB,QD,ZM,Zn,qD]
  exact XT (z1:=0) (z2:=6) (m1 :=.full) (m2 :=.full) (nd:=zR 9 t0.pos nm [v,x]) hk (.inr rfl) (.inl rfl)
 | false =>
  simp only[go_sem,QG,QB,QD,ZM,Zn,qD]
  exact XT (z1:=0) (z2:=6) (m1 :=.full) (m2 :=.full) (nd:=zR 8 t0.pos nm [v,x]) hk (.inr rfl) (.inl rfl)
theorem zyV {T:List Tk} (hT:T.length≤100000) {pid:Nat} {e:PM Nd} (he:HC T pid 79 e):HC T pid 162 (zhw T e):=by
 intro p r p' h K st hp hk
 refine zK (zC [] Tryz.func162 rfl Tryz.results162 Tryz.ntmps162 ?_)
 unfold zhw at h
 simp only[Option.bind_eq_some_iff,Option.map_eq_some_iff,Prod.exists,Prod.mk.injEq] at h
 obtain⟨t0,p1,h1,v,p2,h2,p3,h3,t1,p4,h4,p5,h5,x,p6,h6,p7,h7,rfl,rfl⟩:=h
 simp only[go_sem]
 refine QC hT h1 (zG hp) ?_
 simp only[go_sem,za hp]
 first | (unfold zk;simp only[zd,zb,zo,List.set_cons_succ,List.set_cons_zero,List.getD_cons_succ,List.getD_cons_zero]) | skip
 refine VF hT he _ _ _ h2 _ _ (zl hp) ?_
 simp only[go_sem,za hp]
 first | (unfold zk;simp only[zd,zb,zo,List.set_cons_succ,List.set_cons_zero,List.getD_cons_succ,List.getD_cons_zero]) | skip
 refine ZQ hT h3 (zl hp) fun _=>?_
 simp only[go_sem,za hp]
 first | (unfold zk;simp only[zd,zb,zo,List.set_cons_succ,List.set_cons_zero,List.getD_cons_succ,List.getD_cons_zero]) | skip
 refine VW hT h4 (zl hp) ?_
 simp only[go_sem,za hp]
 first | (unfold zk;simp only[zd,zb,zo,List.set_cons_succ,List.set_cons_zero,List.getD_cons_succ,List.getD_cons_zero]) | skip
 refine ZQ hT h5 (zl hp) fun _=>?_
 simp only[go_sem,za hp]
 refine qI [] [4,7,8] (zlj T pid st p5 p6 [.cells qD,.cells (zH v).cells] qD [.sc (.int .i64 12),.sc (.string (ba t1.text)),.sc (.int .i64 0),.sc (.int .i64 t0.pos),.slice .full 0 [],.slice .full 6 [zH v,zH x]])
  [[[],[7],[4],[4,7]],[[],[7],[4],[4,7]],[[],[7],[4],[4,7]],[[],[7]],[[],[7]],[[4],[4,7]],[[4],[4,7]],[[],[4]],[[4,7]]] Tryz.mixed rfl rfl rfl rfl rfl ?_
 refine zgV rfl (.sc (.int .i64 t0.pos)) (by simp only[go_sem]) (by simp only[go_sem]) (by simp only[go_sem]) (by simp only[go_sem]) ?_
 refine zgV rfl (.sc (.string (ba t1.text))) (by simp only[go_sem]) (by simp only[go_sem]) (by simp only[go_sem]) (by simp only[go_sem]) ?_
 refine zgV rfl (zH v) (by simp only[go_sem,QG,QB,QD,ZM,Zn]) (by simp only[go_sem,QG,QB,QD,ZM,Zn]) (by simp only[go_sem,QG,QB,QD,ZM,Zn]) (by simp only[go_sem,QG,QB,QD,ZM,Zn]) ?_
 refine zV rfl (.ptr pid 0) (by simp only[go_sem]) (by simp only[go_sem]) ?_
 refine Z8 (d:=[4]) (d2:=[4,7]) rfl rfl rfl (zH x) rfl ?_ ?_ ?_
 ·simp only[go_sem,QG,QB,QD,ZM,Zn]
  refine VF hT he _ _ _ h6 _ _ (zl hp) ?_
  simp only[go_sem,za hp]
 ·simp only[go_sem,QG,QB,QD,ZM,Zn]
  refine VF hT he _ _ _ h6 _ _ (zl hp) ?_
  simp only[go_sem,za hp]
 refine zV rfl (.slice .full 6 [zH v,zH x]) ?_ ?_ ?_
 ·simp only[go_sem]
  refine⟨_,?_,rfl⟩
  simp only[go_sem]
  exact⟨⟨[],by simp⟩,zY _ _ (.inr rfl) _ [_,_],.inl rfl⟩
 ·simp only[go_sem]
  refine⟨_,?_,rfl⟩
  simp only[go_sem]
  exact⟨⟨[],by simp⟩,zY _ _ (.inr rfl) _ [_,_],.inl rfl⟩
 refine zV rfl (QM 12 t1.text 0 t0.pos (.slice .full 6 [zH v,zH x])) ?_ ?_ ?_
 ·simp only[go_sem]
  rw[zJ]
  refine⟨_,?_,rfl⟩
  simp only[go_sem]
  refine Q7 rfl rfl rfl rfl (fun _=>rfl) (zY _ _ (.inr rfl) 6 [v,x]) ?_
  exact⟨⟨[],by simp⟩,zbU _ (zY _ _ (.inr rfl) 6 [v,x]),.inl rfl⟩
 ·simp only[go_sem]
  rw[zJ]
  refine⟨_,?_,rfl⟩
  simp only[go_sem]
  refine Q7 rfl rfl rfl rfl (fun _=>rfl) (zY _ _ (.inr rfl) 6 [v,x]) ?_
  exact⟨⟨[],by simp⟩,zbU _ (zY _ _ (.inr rfl) 6 [v,x]),.inl rfl⟩
 refine Z8 (d:=[7]) (d2:=[4,7]) rfl rfl rfl (.ptr (st.length+2) 0) rfl ?_ ?_ ?_
 ·simp only[go_sem,QG,QB,QD,ZM,Zn,qD]
 ·simp only[go_sem,QG,QB,QD,ZM,Zn,qD]
 refine Zy (d:=[4,7,8]) rfl rfl .any rfl ?_ ?_
 ·unfold QM
  simp only[go_sem,QG,QB,QD,ZM,Zn,qD]
 refine ZZ ?_
 simp only[go_sem,QG,QB,QD,ZM,Zn,qD]
 refine ZQ hT h7 (zl hp) fun _=>?_
 simp only[go_sem,za hp]
 exact XT (z1:=0) (z2:=6) (m1 :=.full) (m2 :=.full) (nd:=zR 12 t0.pos t1.text [v,x]) hk (.inr rfl) (.inl rfl)
end Go.Proofs
