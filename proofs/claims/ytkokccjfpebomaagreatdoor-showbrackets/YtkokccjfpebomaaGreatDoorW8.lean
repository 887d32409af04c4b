/- let, try: regions where a variable is laid ahead of a call or behind it. -/
import Derived.Test.YtkokccjfpebomaaGreatDoorW7
import Derived.Test.YtkokccjfpebomaaGreatDoorN1
import Derived.Test.YtkokccjfpebomaaGreatDoorM9
set_option maxHeartbeats 4000000
set_option linter.unusedSimpArgs false
set_option linter.unusedVariables false
set_option maxRecDepth 8000
namespace Go.AL
variable {P:Program}
section
variable {M:List Nat} {ds:List (Option Tmp)} {ks:List Nat} {tbl:List (List Nat×St)} {i:Nat} {Ls:List (List (List Nat))} {o:Oper} {r:List Oper} {env:List SV} {K:List SV→Prop} {c c2 c3 c4:List Nat}
theorem Br (hk:ks.contains i=false) (X:SV) (h1:ZH P M ds o env (XX tbl c) (fun x=>x=X)) (h2:ZH P M ds o env (XX tbl c2) (fun x=>x=X)) (h3:ZH P M ds o env (XX tbl c3) (fun x=>x=X)) (h4:ZH P M ds o env (XX tbl c4) (fun x=>x=X))
  (h:J4 P M ds ks tbl (i+1) Ls r (ZL env o.dst X) K):J4 P M ds ks tbl i ([c,c2,c3,c4]::Ls) (o::r) env K:=by
 refine⟨X,?_,h⟩
 rw[if_neg (by rw[hk];decide)]
 intro x hx
 simp only[List.mem_cons,List.not_mem_nil,or_false] at hx
 rcases hx with rfl | rfl | rfl | rfl
 ·exact h1
 ·exact h2
 ·exact h3
 ·exact h4
end
theorem Ul {k a:Int} {t:Tx} {x:SV} (n:Nat) (h:Ids n x):Ids n (Q1 k t 0 a x):=by
 unfold Q1
 rw[Z6]
 simp only[List.forall_mem_cons,YH,true_and]
 exact⟨ql (.inr rfl) (fun x hx=>by cases hx),h,fun x hx=>by cases hx⟩
def ko (T:List Tk) (pid:Nat) (st:St) (p p':PS) (ex:St) (z n:List SV):List (List Nat×St) :=
 [([],st.set pid (.cells (Z9 T p))++ex),([4],st.set pid (.cells (Z9 T p'))++ex),([7],st.set pid (.cells (Z9 T p))++(ex++[.cells z])),([4,7],st.set pid (.cells (Z9 T p'))++(ex++[.cells z])),([4,7,8],st.set pid (.cells (Z9 T p'))++(ex++[.cells n]))]
section
variable {T:List Tk} {pid:Nat} {st:St} {p p':PS} {ex:St} {z n:List SV}
theorem QU:XX (ko T pid st p p' ex z n) []=st.set pid (.cells (Z9 T p))++ex:=rfl
theorem QT:XX (ko T pid st p p' ex z n) [4]=st.set pid (.cells (Z9 T p'))++ex:=rfl
theorem QR:XX (ko T pid st p p' ex z n) [7]=st.set pid (.cells (Z9 T p))++(ex++[.cells z]):=rfl
theorem ZW:XX (ko T pid st p p' ex z n) [4,7]=st.set pid (.cells (Z9 T p'))++(ex++[.cells z]):=rfl
theorem Zy:XX (ko T pid st p p' ex z n) [4,7,8]=st.set pid (.cells (Z9 T p'))++(ex++[.cells n]):=rfl
end
end Go.AL
namespace Go.Proofs
open Go Go.AL Tryz
theorem sU {T:List Tk} (hT:T.length≤100000) {pid:Nat} {e:PM Nd} (he:HC T pid 79 e):HC T pid 123 (GE T e):=by
 intro p r p' h K st hp hk
 refine zM (zE [] func123 rfl results123 ntmps123 ?_)
 unfold GE at h
 simp only[Option.bind_eq_some_iff,Option.map_eq_some_iff,Prod.exists,Prod.mk.injEq] at h
 obtain⟨t0,p1,h1,nm,rc,v,p2,h2,p3,h3,x,p4,h4,rfl,rfl⟩:=h
 simp only[go_sem]
 refine QQ hT h1 (zI hp) ?_
 simp only[go_sem,zb hp]
 first | (unfold zl;simp only[ze,zc,zq,List.set_cons_succ,List.set_cons_zero,List.getD_cons_succ,List.getD_cons_zero]) | skip
 refine Fj hT he _ _ _ _ _ h2 _ _ (zm hp) ?_
 simp only[go_sem,zb hp]
 first | (unfold zl;simp only[ze,zc,zq,List.set_cons_succ,List.set_cons_zero,List.getD_cons_succ,List.getD_cons_zero]) | skip
 refine Z2 hT h3 (zm hp) fun _=>?_
 simp only[go_sem,zb hp]
 refine qO [] [4,7,8] (ko T pid st p3 p4 [.cells qK,.cells (zJ v).cells] qK [.sc (.int .i64 8),.sc (.string (ba nm)),.sc (.int .i64 0),.sc (.int .i64 t0.pos),.slice .full 0 [],.slice .full 6 [zJ v,zJ x]])
  [[[],[7],[4],[4,7]],[[],[7],[4],[4,7]],[[],[7],[4],[4,7]],[[],[7]],[[],[7]],[[4],[4,7]],[[4],[4,7]],[[],[4]],[[4,7]]] mixed rfl rfl rfl rfl rfl ?_
 refine Br rfl (.sc (.int .i64 t0.pos)) (by simp only[go_sem]) (by simp only[go_sem]) (by simp only[go_sem]) (by simp only[go_sem]) ?_
 refine Br rfl (.sc (.string (ba nm))) (by simp only[go_sem]) (by simp only[go_sem]) (by simp only[go_sem]) (by simp only[go_sem]) ?_
 refine Br rfl (zJ v) (by simp only[go_sem,QU,QT,QR,ZW,Zy]) (by simp only[go_sem,QU,QT,QR,ZW,Zy]) (by simp only[go_sem,QU,QT,QR,ZW,Zy]) (by simp only[go_sem,QU,QT,QR,ZW,Zy]) ?_
 refine zZ rfl (.ptr pid 0) (by simp only[go_sem]) (by simp only[go_sem]) ?_
 refine Qk (d:=[4]) (d2:=[4,7]) rfl rfl rfl (zJ x) rfl ?_ ?_ ?_
 ·simp only[go_sem,QU,QT,QR,ZW,Zy]
  refine Wk he rfl h4 (zm hp) ?_
  simp only[go_sem,zb hp]
 ·simp only[go_sem,QU,QT,QR,ZW,Zy]
  refine Wk he rfl h4 (zm hp) ?_
  simp only[go_sem,zb hp]
 refine zZ rfl (.slice .full 6 [zJ v,zJ x]) ?_ ?_ ?_
 ·simp only[go_sem]
  refine⟨_,?_,rfl⟩
  simp only[go_sem]
  exact⟨⟨[],by simp⟩,qb _ _ (.inr rfl) _ [_,_],.inl rfl⟩
 ·simp only[go_sem]
  refine⟨_,?_,rfl⟩
  simp only[go_sem]
  exact⟨⟨[],by simp⟩,qb _ _ (.inr rfl) _ [_,_],.inl rfl⟩
 refine zZ rfl (Q1 8 nm 0 t0.pos (.slice .full 6 [zJ v,zJ x])) ?_ ?_ ?_
 ·simp only[go_sem]
  rw[zL]
  refine⟨_,?_,rfl⟩
  simp only[go_sem]
  refine Xl rfl rfl rfl rfl (fun _=>rfl) (qb _ _ (.inr rfl) 6 [v,x]) ?_
  exact⟨⟨[],by simp⟩,Ul _ (qb _ _ (.inr rfl) 6 [v,x]),.inl rfl⟩
 ·simp only[go_sem]
  rw[zL]
  refine⟨_,?_,rfl⟩
  simp only[go_sem]
  refine Xl rfl rfl rfl rfl (fun _=>rfl) (qb _ _ (.inr rfl) 6 [v,x]) ?_
  exact⟨⟨[],by simp⟩,Ul _ (qb _ _ (.inr rfl) 6 [v,x]),.inl rfl⟩
 refine Qk (d:=[7]) (d2:=[4,7]) rfl rfl rfl (.ptr (st.length+2) 0) rfl ?_ ?_ ?_
 ·simp only[go_sem,QU,QT,QR,ZW,Zy,qK]
 ·simp only[go_sem,QU,QT,QR,ZW,Zy,qK]
 refine ZG (d:=[4,7,8]) rfl rfl .any rfl ?_ ?_
 ·unfold Q1
  simp only[go_sem,QU,QT,QR,ZW,Zy,qK]
 refine Qb ?_
 cases rc with
 | true =>
  simp only[go_sem,QU,QT,QR,ZW,Zy,qK]
  exact Ym (z1:=0) (z2:=6) (m1 :=.full) (m2 :=.full) (nd:=zT 9 t0.pos nm [v,x]) hk (.inr rfl) (.inl rfl)
 | false =>
  simp only[go_sem,QU,QT,QR,ZW,Zy,qK]
  exact Ym (z1:=0) (z2:=6) (m1 :=.full) (m2 :=.full) (nd:=zT 8 t0.pos nm [v,x]) hk (.inr rfl) (.inl rfl)
theorem rY {T:List Tk} (hT:T.length≤100000) {pid:Nat} {e:PM Nd} (he:HC T pid 79 e):HC T pid 162 (EA T e):=by
 intro p r p' h K st hp hk
 refine zM (zE [] func162 rfl results162 ntmps162 ?_)
 unfold EA at h
 simp only[Option.bind_eq_some_iff,Option.map_eq_some_iff,Prod.exists,Prod.mk.injEq] at h
 obtain⟨t0,p1,h1,v,p2,h2,p3,h3,t1,p4,h4,p5,h5,x,p6,h6,p7,h7,rfl,rfl⟩:=h
 simp only[go_sem]
 refine QQ hT h1 (zI hp) ?_
 simp only[go_sem,zb hp]
 first | (unfold zl;simp only[ze,zc,zq,List.set_cons_succ,List.set_cons_zero,List.getD_cons_succ,List.getD_cons_zero]) | skip
 refine V0 hT he _ _ _ h2 _ _ (zm hp) ?_
 simp only[go_sem,zb hp]
 first | (unfold zl;simp only[ze,zc,zq,List.set_cons_succ,List.set_cons_zero,List.getD_cons_succ,List.getD_cons_zero]) | skip
 refine Z2 hT h3 (zm hp) fun _=>?_
 simp only[go_sem,zb hp]
 first | (unfold zl;simp only[ze,zc,zq,List.set_cons_succ,List.set_cons_zero,List.getD_cons_succ,List.getD_cons_zero]) | skip
 refine VX hT h4 (zm hp) ?_
 simp only[go_sem,zb hp]
 first | (unfold zl;simp only[ze,zc,zq,List.set_cons_succ,List.set_cons_zero,List.getD_cons_succ,List.getD_cons_zero]) | skip
 refine Z2 hT h5 (zm hp) fun _=>?_
 simp only[go_sem,zb hp]
 refine qO [] [4,7,8] (ko T pid st p5 p6 [.cells qK,.cells (zJ v).cells] qK [.sc (.int .i64 12),.sc (.string (ba t1.text)),.sc (.int .i64 0),.sc (.int .i64 t0.pos),.slice .full 0 [],.slice .full 6 [zJ v,zJ x]])
  [[[],[7],[4],[4,7]],[[],[7],[4],[4,7]],[[],[7],[4],[4,7]],[[],[7]],[[],[7]],[[4],[4,7]],[[4],[4,7]],[[],[4]],[[4,7]]] mixed rfl rfl rfl rfl rfl ?_
 refine Br rfl (.sc (.int .i64 t0.pos)) (by simp only[go_sem]) (by simp only[go_sem]) (by simp only[go_sem]) (by simp only[go_sem]) ?_
 refine Br rfl (.sc (.string (ba t1.text))) (by simp only[go_sem]) (by simp only[go_sem]) (by simp only[go_sem]) (by simp only[go_sem]) ?_
 refine Br rfl (zJ v) (by simp only[go_sem,QU,QT,QR,ZW,Zy]) (by simp only[go_sem,QU,QT,QR,ZW,Zy]) (by simp only[go_sem,QU,QT,QR,ZW,Zy]) (by simp only[go_sem,QU,QT,QR,ZW,Zy]) ?_
 refine zZ rfl (.ptr pid 0) (by simp only[go_sem]) (by simp only[go_sem]) ?_
 refine Qk (d:=[4]) (d2:=[4,7]) rfl rfl rfl (zJ x) rfl ?_ ?_ ?_
 ·simp only[go_sem,QU,QT,QR,ZW,Zy]
  refine V0 hT he _ _ _ h6 _ _ (zm hp) ?_
  simp only[go_sem,zb hp]
 ·simp only[go_sem,QU,QT,QR,ZW,Zy]
  refine V0 hT he _ _ _ h6 _ _ (zm hp) ?_
  simp only[go_sem,zb hp]
 refine zZ rfl (.slice .full 6 [zJ v,zJ x]) ?_ ?_ ?_
 ·simp only[go_sem]
  refine⟨_,?_,rfl⟩
  simp only[go_sem]
  exact⟨⟨[],by simp⟩,qb _ _ (.inr rfl) _ [_,_],.inl rfl⟩
 ·simp only[go_sem]
  refine⟨_,?_,rfl⟩
  simp only[go_sem]
  exact⟨⟨[],by simp⟩,qb _ _ (.inr rfl) _ [_,_],.inl rfl⟩
 refine zZ rfl (Q1 12 t1.text 0 t0.pos (.slice .full 6 [zJ v,zJ x])) ?_ ?_ ?_
 ·simp only[go_sem]
  rw[zL]
  refine⟨_,?_,rfl⟩
  simp only[go_sem]
  refine Xl rfl rfl rfl rfl (fun _=>rfl) (qb _ _ (.inr rfl) 6 [v,x]) ?_
  exact⟨⟨[],by simp⟩,Ul _ (qb _ _ (.inr rfl) 6 [v,x]),.inl rfl⟩
 ·simp only[go_sem]
  rw[zL]
  refine⟨_,?_,rfl⟩
  simp only[go_sem]
  refine Xl rfl rfl rfl rfl (fun _=>rfl) (qb _ _ (.inr rfl) 6 [v,x]) ?_
  exact⟨⟨[],by simp⟩,Ul _ (qb _ _ (.inr rfl) 6 [v,x]),.inl rfl⟩
 refine Qk (d:=[7]) (d2:=[4,7]) rfl rfl rfl (.ptr (st.length+2) 0) rfl ?_ ?_ ?_
 ·simp only[go_sem,QU,QT,QR,ZW,Zy,qK]
 ·simp only[go_sem,QU,QT,QR,ZW,Zy,qK]
 refine ZG (d:=[4,7,8]) rfl rfl .any rfl ?_ ?_
 ·unfold Q1
  simp only[go_sem,QU,QT,QR,ZW,Zy,qK]
 refine Qb ?_
 simp only[go_sem,QU,QT,QR,ZW,Zy,qK]
 refine Z2 hT h7 (zm hp) fun _=>?_
 simp only[go_sem,zb hp]
 exact Ym (z1:=0) (z2:=6) (m1 :=.full) (m2 :=.full) (nd:=zT 12 t0.pos t1.text [v,x]) hk (.inr rfl) (.inl rfl)
end Go.Proofs
