/- show.text. -/
import Derived.Test.YtkokccjfpebomaaGreatDoorS2
import Derived.Test.YtkokccjfpebomaaGreatDoorS3
set_option maxHeartbeats 4000000
set_option linter.unusedSimpArgs false
set_option linter.unusedVariables false
set_option maxRecDepth 8000
namespace Go.Proofs
open Go Go.AL Tryz
theorem uI {d:Nat} (hT:TxC d) {n:Nd} (hd:Dep (d+1) n) (hf:Fit n) (h1:0<n.kids.length) {w:Tx} {x:ByteArray} (hx:x=ba w) {lo:Int} {r:Tx} (hr:Xw (zK d) w n lo=r) (hl:r.length≤140737488355328) {K:SV→St→Prop} {st:St} (hk:K (.sc (.string (ba r))) st) :
  ACalls prog 42 [.sc (.string x),.agg [.sc (.int .i64 n.kind),.sc (.string (ba n.text)),.sc (.int .i64 n.num),.sc (.int .i64 n.pos),.slice .imm 1 (n.names.map qD),.slice .imm 6 (n.kids.map zJ)],.sc (.int .i64 lo)] K st:=by
 subst hx
 have:=fm hT hd hf h1 hr hl hk
 rw[Zz] at this
 exact this
theorem Cf {d:Nat} (hT:TxC d) {n:Nd} (hd:Dep (d+1) n) (hf:Fit n) (h2:1<n.kids.length) {lo:Int} {r:Tx} (hr:cS (zK d) n lo=r) (hl:r.length≤140737488355328) {K:SV→St→Prop} {st:St} (hk:K (.sc (.string (ba r))) st) :
  ACalls prog 70 [.agg [.sc (.int .i64 n.kind),.sc (.string (ba n.text)),.sc (.int .i64 n.num),.sc (.int .i64 n.pos),.slice .imm 1 (n.names.map qD),.slice .imm 6 (n.kids.map zJ)],.sc (.int .i64 lo)] K st:=by
 have:=AO hT hd hf h2 hr hl hk
 rw[Zz] at this
 exact this
theorem Xu {n:Nd} {r:Bool} (hr:Ze n=r) {K:SV→St→Prop} {st:St} (hk:K (.sc (.bool r)) st):ACalls prog 41 [.agg [.sc (.int .i64 n.kind),.sc (.string (ba n.text)),.sc (.int .i64 n.num),.sc (.int .i64 n.pos),.slice .imm 1 (n.names.map qD),.slice .imm 6 (n.kids.map zJ)]] K st:=by
 have:=ez hr hk
 rw[Zz] at this
 exact this
theorem xd {d:Nat} (hT:TxC d) {l:List Nd} (hd:∀ c∈l,Dep d c) (hf:∀ c∈l,Fit c) (hn:l.length≤100000) {r:Tx} (hr:YB (zK d) [] l.tail=r) (hl:r.length≤140737488355328) {K:SV→St→Prop} {st:St} (hk:K (.sc (.string (ba r))) st) :
  ACalls prog 69 [.slice .imm 6 (List.drop 1 (l.map zJ))] K st:=by
 have e:List.drop 1 (l.map zJ)=l.tail.map zJ:=by cases l <;> rfl
 rw[e]
 exact tQ hT (fun c hc=>hd c (List.mem_of_mem_tail hc)) (fun c hc=>hf c (List.mem_of_mem_tail hc)) (by simp;omega) hr hl hk
theorem Xo:(!(([]:Tx)==[]))=false:=rfl
theorem ZT (T:Nd→Int→Tx) (n:Nd) (lo:Int) (h:Ze n=true) (hk:Yj n.kind=[]):Qw T n lo=if n.kind=1 then KA n.num else if n.kind=2 then WF n.text else if n.kind=3 then [40,32,41]
 else if n.kind=4∨n.kind=5∨n.kind=27 then Jt T lo n.text n.kids
 else if n.kind=24 then [95] else if n.kind=19 then [114,101,116,114,121]
 else if n.kind=6 then Ql [[102,117,110],n.text,[45,62],zB T (qI n 0) lo lo]
 else if n.kind=7 then Ql [zB T (qI n 0) 1 lo,zB T (qI n 1) 0 lo]
 else if n.kind=8 then Ql [Xw T [108,101,116] n lo,[105,110],zB T (qI n 1) lo lo]
 else if n.kind=9 then Ql [Xw T [108,101,116,32,114,101,99] n lo,[105,110],zB T (qI n 1) lo lo]
 else if n.kind=10 then Ql [[105,102],zB T (qI n 0) lo lo,[116,104,101,110],zB T (qI n 1) lo lo,[101,108,115,101],zB T (qI n 2) lo lo]
 else if n.kind=11 then Ql [[109,97,116,99,104],zB T (qI n 0) 7 7,[119,105,116,104]]++YB T [] n.kids.tail++[32,101,110,100]
 else if n.kind=12 then Ql [[116,114,121],zB T (qI n 0) 7 7,[119,105,116,104],n.text,[45,62],zB T (qI n 1) 7 7,[101,110,100]]
 else if n.kind=13 then cS T n lo
 else if n.kind=14 then Ql [zB T (qI n 0) 5 lo,[59],zB T (qI n 1) 7 7]
 else [36]:=by
 unfold Qw
 rw[if_neg (by rw[h];decide),if_neg (by rw[hk];decide)]
theorem nq {d:Nat} (hT:TxC d) {n:Nd} (hkd:n.kind=3) (hm:Ze n=true) (hd:Dep (d+1) n) (hf:Fit n) {lo:Int} {r:Tx} (hr:Qw (zK d) n lo=r) (hl:r.length≤140737488355328) {K:SV→St→Prop} {st:St} (hk:K (.sc (.string (ba r))) st):ACalls prog 45 [zJ n,.sc (.int .i64 lo)] K st:=by
 refine zn [] func45 rfl results45 ntmps45 ?_
 have hky:Yj n.kind=[]:=by rw[hkd];decide
 rw[ZT _ _ _ hm hky] at hr
 simp only[hkd,Int.reduceEq,if_true,if_false,or_false,false_or,or_true,true_or] at hr
 have D:∀ j:Int,(n.kind==j)=((3:Int)==j):=fun j=>by rw[hkd]
 have hh:=hf.kids.2.1
 simp -implicitDefEqProofs (maxSteps:=3000000) only[go_sem,zd]
 refine Xu hm ?_
 simp -implicitDefEqProofs (maxSteps:=3000000) only[go_sem,zd]
 refine Q4 hky ?_
 simp -implicitDefEqProofs (maxSteps:=3000000) only[go_sem,zd,D,Int.reduceBEq,Xo]
 subst hr
 exact qi (zC _ _) hk
theorem gk {d:Nat} (hT:TxC d) {n:Nd} (hkd:n.kind=24) (hm:Ze n=true) (hd:Dep (d+1) n) (hf:Fit n) {lo:Int} {r:Tx} (hr:Qw (zK d) n lo=r) (hl:r.length≤140737488355328) {K:SV→St→Prop} {st:St} (hk:K (.sc (.string (ba r))) st):ACalls prog 45 [zJ n,.sc (.int .i64 lo)] K st:=by
 refine zn [] func45 rfl results45 ntmps45 ?_
 have hky:Yj n.kind=[]:=by rw[hkd];decide
 rw[ZT _ _ _ hm hky] at hr
 simp only[hkd,Int.reduceEq,if_true,if_false,or_false,false_or,or_true,true_or] at hr
 have D:∀ j:Int,(n.kind==j)=((24:Int)==j):=fun j=>by rw[hkd]
 have hh:=hf.kids.2.1
 simp -implicitDefEqProofs (maxSteps:=3000000) only[go_sem,zd]
 refine Xu hm ?_
 simp -implicitDefEqProofs (maxSteps:=3000000) only[go_sem,zd]
 refine Q4 hky ?_
 simp -implicitDefEqProofs (maxSteps:=3000000) only[go_sem,zd,D,Int.reduceBEq,Xo]
 subst hr
 exact qi (zC _ _) hk
theorem mt {d:Nat} (hT:TxC d) {n:Nd} (hkd:n.kind=19) (hm:Ze n=true) (hd:Dep (d+1) n) (hf:Fit n) {lo:Int} {r:Tx} (hr:Qw (zK d) n lo=r) (hl:r.length≤140737488355328) {K:SV→St→Prop} {st:St} (hk:K (.sc (.string (ba r))) st):ACalls prog 45 [zJ n,.sc (.int .i64 lo)] K st:=by
 refine zn [] func45 rfl results45 ntmps45 ?_
 have hky:Yj n.kind=[]:=by rw[hkd];decide
 rw[ZT _ _ _ hm hky] at hr
 simp only[hkd,Int.reduceEq,if_true,if_false,or_false,false_or,or_true,true_or] at hr
 have D:∀ j:Int,(n.kind==j)=((19:Int)==j):=fun j=>by rw[hkd]
 have hh:=hf.kids.2.1
 simp -implicitDefEqProofs (maxSteps:=3000000) only[go_sem,zd]
 refine Xu hm ?_
 simp -implicitDefEqProofs (maxSteps:=3000000) only[go_sem,zd]
 refine Q4 hky ?_
 simp -implicitDefEqProofs (maxSteps:=3000000) only[go_sem,zd,D,Int.reduceBEq,Xo]
 subst hr
 exact qi (zC _ _) hk
theorem n6 {d:Nat} (hT:TxC d) {n:Nd} (hkd:n.kind=4) (hm:Ze n=true) (hd:Dep (d+1) n) (hf:Fit n) {lo:Int} {r:Tx} (hr:Qw (zK d) n lo=r) (hl:r.length≤140737488355328) {K:SV→St→Prop} {st:St} (hk:K (.sc (.string (ba r))) st):ACalls prog 45 [zJ n,.sc (.int .i64 lo)] K st:=by
 refine zn [] func45 rfl results45 ntmps45 ?_
 have hky:Yj n.kind=[]:=by rw[hkd];decide
 rw[ZT _ _ _ hm hky] at hr
 simp only[hkd,Int.reduceEq,if_true,if_false,or_false,false_or,or_true,true_or] at hr
 have D:∀ j:Int,(n.kind==j)=((4:Int)==j):=fun j=>by rw[hkd]
 have hh:=hf.kids.2.1
 simp -implicitDefEqProofs (maxSteps:=3000000) only[go_sem,zd]
 refine Xu hm ?_
 simp -implicitDefEqProofs (maxSteps:=3000000) only[go_sem,zd]
 refine Q4 hky ?_
 simp -implicitDefEqProofs (maxSteps:=3000000) only[go_sem,zd,D,Int.reduceBEq,Xo]
 refine FQ hT hd.kids hf.kids.1 hh hr hl ?_
 simp only[go_sem]
 exact qi (zC _ _) hk
theorem nt {d:Nat} (hT:TxC d) {n:Nd} (hkd:n.kind=5) (hm:Ze n=true) (hd:Dep (d+1) n) (hf:Fit n) {lo:Int} {r:Tx} (hr:Qw (zK d) n lo=r) (hl:r.length≤140737488355328) {K:SV→St→Prop} {st:St} (hk:K (.sc (.string (ba r))) st):ACalls prog 45 [zJ n,.sc (.int .i64 lo)] K st:=by
 refine zn [] func45 rfl results45 ntmps45 ?_
 have hky:Yj n.kind=[]:=by rw[hkd];decide
 rw[ZT _ _ _ hm hky] at hr
 simp only[hkd,Int.reduceEq,if_true,if_false,or_false,false_or,or_true,true_or] at hr
 have D:∀ j:Int,(n.kind==j)=((5:Int)==j):=fun j=>by rw[hkd]
 have hh:=hf.kids.2.1
 simp -implicitDefEqProofs (maxSteps:=3000000) only[go_sem,zd]
 refine Xu hm ?_
 simp -implicitDefEqProofs (maxSteps:=3000000) only[go_sem,zd]
 refine Q4 hky ?_
 simp -implicitDefEqProofs (maxSteps:=3000000) only[go_sem,zd,D,Int.reduceBEq,Xo]
 refine FQ hT hd.kids hf.kids.1 hh hr hl ?_
 simp only[go_sem]
 exact qi (zC _ _) hk
theorem xW {d:Nat} (hT:TxC d) {n:Nd} (hkd:n.kind=27) (hm:Ze n=true) (hd:Dep (d+1) n) (hf:Fit n) {lo:Int} {r:Tx} (hr:Qw (zK d) n lo=r) (hl:r.length≤140737488355328) {K:SV→St→Prop} {st:St} (hk:K (.sc (.string (ba r))) st):ACalls prog 45 [zJ n,.sc (.int .i64 lo)] K st:=by
 refine zn [] func45 rfl results45 ntmps45 ?_
 have hky:Yj n.kind=[]:=by rw[hkd];decide
 rw[ZT _ _ _ hm hky] at hr
 simp only[hkd,Int.reduceEq,if_true,if_false,or_false,false_or,or_true,true_or] at hr
 have D:∀ j:Int,(n.kind==j)=((27:Int)==j):=fun j=>by rw[hkd]
 have hh:=hf.kids.2.1
 simp -implicitDefEqProofs (maxSteps:=3000000) only[go_sem,zd]
 refine Xu hm ?_
 simp -implicitDefEqProofs (maxSteps:=3000000) only[go_sem,zd]
 refine Q4 hky ?_
 simp -implicitDefEqProofs (maxSteps:=3000000) only[go_sem,zd,D,Int.reduceBEq,Xo]
 refine FQ hT hd.kids hf.kids.1 hh hr hl ?_
 simp only[go_sem]
 exact qi (zC _ _) hk
theorem dp {d:Nat} (hT:TxC d) {n:Nd} (hkd:n.kind=6) (hm:Ze n=true) (hd:Dep (d+1) n) (hf:Fit n) {lo:Int} {r:Tx} (hr:Qw (zK d) n lo=r) (hl:r.length≤140737488355328) {K:SV→St→Prop} {st:St} (hk:K (.sc (.string (ba r))) st):ACalls prog 45 [zJ n,.sc (.int .i64 lo)] K st:=by
 refine zn [] func45 rfl results45 ntmps45 ?_
 have hky:Yj n.kind=[]:=by rw[hkd];decide
 rw[ZT _ _ _ hm hky] at hr
 simp only[hkd,Int.reduceEq,if_true,if_false,or_false,false_or,or_true,true_or] at hr
 have D:∀ j:Int,(n.kind==j)=((6:Int)==j):=fun j=>by rw[hkd]
 have hh:=hf.kids.2.1
 have hm2:=hm
 unfold Ze at hm2
 simp only[hkd,Int.reduceEq,if_true,if_false,or_false,false_or,or_true,true_or,decide_eq_true_eq] at hm2
 have h0:0<n.kids.length:=by omega
 have g0:=QG h0
 have hl1:=hl
 rw[←hr,Xd] at hl1
 simp -implicitDefEqProofs (maxSteps:=3000000) only[go_sem,zd]
 refine Xu hm ?_
 simp -implicitDefEqProofs (maxSteps:=3000000) only[go_sem,zd]
 refine Q4 hky ?_
 simp -implicitDefEqProofs (maxSteps:=3000000) only[go_sem,zd,D,Int.reduceBEq,Xo]
 refine zX [] mixed rfl ?_
 try simp only[go_sem,zd,List.length_map,Int.reduceToNat,g0]
 refine⟨by omega,?_⟩
 rw[zL]
 refine⟨.sc (.string (ba (zB (zK d) (qI n 0) lo lo))),?_,?_⟩
 ·simp only[go_sem]
  refine Zh hT (Zv hd h0) (Zu hf h0) rfl (by omega) ?_
  exact qt
 try simp only[go_sem,zd,List.length_map,Int.reduceToNat,g0]
 rw[zL]
 refine⟨.slice .full 1 ([[102,117,110],n.text,[45,62],zB (zK d) (qI n 0) lo lo].map qD),?_,?_⟩
 ·simp only[go_sem]
  exact⟨⟨[],by simp⟩,ZX _ .full (.inr rfl) _ [[102,117,110],n.text,[45,62],zB (zK d) (qI n 0) lo lo],.inl rfl⟩
 try simp only[go_sem,zd,List.length_map,Int.reduceToNat]
 rw[zL]
 refine⟨.sc (.string (ba (r))),?_,?_⟩
 ·simp only[go_sem]
  refine QM (l:=[[102,117,110],n.text,[45,62],zB (zK d) (qI n 0) lo lo]) (by simp) (by simp) hr hl ?_
  exact qt
 try simp only[go_sem,zd,List.length_map,Int.reduceToNat]
 exact qi (zC _ _) hk
theorem bf {d:Nat} (hT:TxC d) {n:Nd} (hkd:n.kind=7) (hm:Ze n=true) (hd:Dep (d+1) n) (hf:Fit n) {lo:Int} {r:Tx} (hr:Qw (zK d) n lo=r) (hl:r.length≤140737488355328) {K:SV→St→Prop} {st:St} (hk:K (.sc (.string (ba r))) st):ACalls prog 45 [zJ n,.sc (.int .i64 lo)] K st:=by
 refine zn [] func45 rfl results45 ntmps45 ?_
 have hky:Yj n.kind=[]:=by rw[hkd];decide
 rw[ZT _ _ _ hm hky] at hr
 simp only[hkd,Int.reduceEq,if_true,if_false,or_false,false_or,or_true,true_or] at hr
 have D:∀ j:Int,(n.kind==j)=((7:Int)==j):=fun j=>by rw[hkd]
 have hh:=hf.kids.2.1
 have hm2:=hm
 unfold Ze at hm2
 simp only[hkd,Int.reduceEq,if_true,if_false,or_false,false_or,or_true,true_or,decide_eq_true_eq] at hm2
 have h0:0<n.kids.length:=by omega
 have g0:=QG h0
 have h1:1<n.kids.length:=by omega
 have g1:=QG h1
 have hl1:=hl
 rw[←hr,Z4] at hl1
 simp -implicitDefEqProofs (maxSteps:=3000000) only[go_sem,zd]
 refine Xu hm ?_
 simp -implicitDefEqProofs (maxSteps:=3000000) only[go_sem,zd]
 refine Q4 hky ?_
 simp -implicitDefEqProofs (maxSteps:=3000000) only[go_sem,zd,D,Int.reduceBEq,Xo]
 refine zX [] mixed rfl ?_
 try simp only[go_sem,zd,List.length_map,Int.reduceToNat,g0,g1]
 refine⟨by omega,?_⟩
 rw[zL]
 refine⟨.sc (.string (ba (zB (zK d) (qI n 0) 1 lo))),?_,?_⟩
 ·simp only[go_sem]
  refine Zh hT (Zv hd h0) (Zu hf h0) rfl (by omega) ?_
  exact qt
 try simp only[go_sem,zd,List.length_map,Int.reduceToNat,g0,g1]
 refine⟨by omega,?_⟩
 rw[zL]
 refine⟨.sc (.string (ba (zB (zK d) (qI n 1) 0 lo))),?_,?_⟩
 ·simp only[go_sem]
  refine Zh hT (Zv hd h1) (Zu hf h1) rfl (by omega) ?_
  exact qt
 try simp only[go_sem,zd,List.length_map,Int.reduceToNat,g0,g1]
 rw[zL]
 refine⟨.slice .full 1 ([zB (zK d) (qI n 0) 1 lo,zB (zK d) (qI n 1) 0 lo].map qD),?_,?_⟩
 ·simp only[go_sem]
  exact⟨⟨[],by simp⟩,ZX _ .full (.inr rfl) _ [zB (zK d) (qI n 0) 1 lo,zB (zK d) (qI n 1) 0 lo],.inl rfl⟩
 try simp only[go_sem,zd,List.length_map,Int.reduceToNat]
 rw[zL]
 refine⟨.sc (.string (ba (r))),?_,?_⟩
 ·simp only[go_sem]
  refine QM (l:=[zB (zK d) (qI n 0) 1 lo,zB (zK d) (qI n 1) 0 lo]) (by simp) (by simp) hr hl ?_
  exact qt
 try simp only[go_sem,zd,List.length_map,Int.reduceToNat]
 exact qi (zC _ _) hk
theorem bJ {d:Nat} (hT:TxC d) {n:Nd} (hkd:n.kind=8) (hm:Ze n=true) (hd:Dep (d+1) n) (hf:Fit n) {lo:Int} {r:Tx} (hr:Qw (zK d) n lo=r) (hl:r.length≤140737488355328) {K:SV→St→Prop} {st:St} (hk:K (.sc (.string (ba r))) st):ACalls prog 45 [zJ n,.sc (.int .i64 lo)] K st:=by
 refine zn [] func45 rfl results45 ntmps45 ?_
 have hky:Yj n.kind=[]:=by rw[hkd];decide
 rw[ZT _ _ _ hm hky] at hr
 simp only[hkd,Int.reduceEq,if_true,if_false,or_false,false_or,or_true,true_or] at hr
 have D:∀ j:Int,(n.kind==j)=((8:Int)==j):=fun j=>by rw[hkd]
 have hh:=hf.kids.2.1
 have hm2:=hm
 unfold Ze at hm2
 simp only[hkd,Int.reduceEq,if_true,if_false,or_false,false_or,or_true,true_or,decide_eq_true_eq] at hm2
 have h0:0<n.kids.length:=by omega
 have g0:=QG h0
 have h1:1<n.kids.length:=by omega
 have g1:=QG h1
 have hl1:=hl
 rw[←hr,Qd] at hl1
 simp -implicitDefEqProofs (maxSteps:=3000000) only[go_sem,zd]
 refine Xu hm ?_
 simp -implicitDefEqProofs (maxSteps:=3000000) only[go_sem,zd]
 refine Q4 hky ?_
 simp -implicitDefEqProofs (maxSteps:=3000000) only[go_sem,zd,D,Int.reduceBEq,Xo]
 refine zX [] mixed rfl ?_
 try simp only[go_sem,zd,List.length_map,Int.reduceToNat,g0,g1]
 rw[zL]
 refine⟨.sc (.string (ba (Xw (zK d) [108,101,116] n lo))),?_,?_⟩
 ·simp only[go_sem]
  refine uI hT hd hf h0 rfl rfl (by omega) ?_
  exact qt
 try simp only[go_sem,zd,List.length_map,Int.reduceToNat,g0,g1]
 refine⟨by omega,?_⟩
 rw[zL]
 refine⟨.sc (.string (ba (zB (zK d) (qI n 1) lo lo))),?_,?_⟩
 ·simp only[go_sem]
  refine Zh hT (Zv hd h1) (Zu hf h1) rfl (by omega) ?_
  exact qt
 try simp only[go_sem,zd,List.length_map,Int.reduceToNat,g0,g1]
 rw[zL]
 refine⟨.slice .full 1 ([Xw (zK d) [108,101,116] n lo,[105,110],zB (zK d) (qI n 1) lo lo].map qD),?_,?_⟩
 ·simp only[go_sem]
  exact⟨⟨[],by simp⟩,ZX _ .full (.inr rfl) _ [Xw (zK d) [108,101,116] n lo,[105,110],zB (zK d) (qI n 1) lo lo],.inl rfl⟩
 try simp only[go_sem,zd,List.length_map,Int.reduceToNat]
 rw[zL]
 refine⟨.sc (.string (ba (r))),?_,?_⟩
 ·simp only[go_sem]
  refine QM (l:=[Xw (zK d) [108,101,116] n lo,[105,110],zB (zK d) (qI n 1) lo lo]) (by simp) (by simp) hr hl ?_
  exact qt
 try simp only[go_sem,zd,List.length_map,Int.reduceToNat]
 exact qi (zC _ _) hk
theorem dL {d:Nat} (hT:TxC d) {n:Nd} (hkd:n.kind=9) (hm:Ze n=true) (hd:Dep (d+1) n) (hf:Fit n) {lo:Int} {r:Tx} (hr:Qw (zK d) n lo=r) (hl:r.length≤140737488355328) {K:SV→St→Prop} {st:St} (hk:K (.sc (.string (ba r))) st):ACalls prog 45 [zJ n,.sc (.int .i64 lo)] K st:=by
 refine zn [] func45 rfl results45 ntmps45 ?_
 have hky:Yj n.kind=[]:=by rw[hkd];decide
 rw[ZT _ _ _ hm hky] at hr
 simp only[hkd,Int.reduceEq,if_true,if_false,or_false,false_or,or_true,true_or] at hr
 have D:∀ j:Int,(n.kind==j)=((9:Int)==j):=fun j=>by rw[hkd]
 have hh:=hf.kids.2.1
 have hm2:=hm
 unfold Ze at hm2
 simp only[hkd,Int.reduceEq,if_true,if_false,or_false,false_or,or_true,true_or,decide_eq_true_eq] at hm2
 have h0:0<n.kids.length:=by omega
 have g0:=QG h0
 have h1:1<n.kids.length:=by omega
 have g1:=QG h1
 have hl1:=hl
 rw[←hr,Qd] at hl1
 simp -implicitDefEqProofs (maxSteps:=3000000) only[go_sem,zd]
 refine Xu hm ?_
 simp -implicitDefEqProofs (maxSteps:=3000000) only[go_sem,zd]
 refine Q4 hky ?_
 simp -implicitDefEqProofs (maxSteps:=3000000) only[go_sem,zd,D,Int.reduceBEq,Xo]
 refine zX [] mixed rfl ?_
 try simp only[go_sem,zd,List.length_map,Int.reduceToNat,g0,g1]
 rw[zL]
 refine⟨.sc (.string (ba (Xw (zK d) [108,101,116,32,114,101,99] n lo))),?_,?_⟩
 ·simp only[go_sem]
  refine uI hT hd hf h0 rfl rfl (by omega) ?_
  exact qt
 try simp only[go_sem,zd,List.length_map,Int.reduceToNat,g0,g1]
 refine⟨by omega,?_⟩
 rw[zL]
 refine⟨.sc (.string (ba (zB (zK d) (qI n 1) lo lo))),?_,?_⟩
 ·simp only[go_sem]
  refine Zh hT (Zv hd h1) (Zu hf h1) rfl (by omega) ?_
  exact qt
 try simp only[go_sem,zd,List.length_map,Int.reduceToNat,g0,g1]
 rw[zL]
 refine⟨.slice .full 1 ([Xw (zK d) [108,101,116,32,114,101,99] n lo,[105,110],zB (zK d) (qI n 1) lo lo].map qD),?_,?_⟩
 ·simp only[go_sem]
  exact⟨⟨[],by simp⟩,ZX _ .full (.inr rfl) _ [Xw (zK d) [108,101,116,32,114,101,99] n lo,[105,110],zB (zK d) (qI n 1) lo lo],.inl rfl⟩
 try simp only[go_sem,zd,List.length_map,Int.reduceToNat]
 rw[zL]
 refine⟨.sc (.string (ba (r))),?_,?_⟩
 ·simp only[go_sem]
  refine QM (l:=[Xw (zK d) [108,101,116,32,114,101,99] n lo,[105,110],zB (zK d) (qI n 1) lo lo]) (by simp) (by simp) hr hl ?_
  exact qt
 try simp only[go_sem,zd,List.length_map,Int.reduceToNat]
 exact qi (zC _ _) hk
theorem xR {d:Nat} (hT:TxC d) {n:Nd} (hkd:n.kind=10) (hm:Ze n=true) (hd:Dep (d+1) n) (hf:Fit n) {lo:Int} {r:Tx} (hr:Qw (zK d) n lo=r) (hl:r.length≤140737488355328) {K:SV→St→Prop} {st:St} (hk:K (.sc (.string (ba r))) st):ACalls prog 45 [zJ n,.sc (.int .i64 lo)] K st:=by
 refine zn [] func45 rfl results45 ntmps45 ?_
 have hky:Yj n.kind=[]:=by rw[hkd];decide
 rw[ZT _ _ _ hm hky] at hr
 simp only[hkd,Int.reduceEq,if_true,if_false,or_false,false_or,or_true,true_or] at hr
 have D:∀ j:Int,(n.kind==j)=((10:Int)==j):=fun j=>by rw[hkd]
 have hh:=hf.kids.2.1
 have hm2:=hm
 unfold Ze at hm2
 simp only[hkd,Int.reduceEq,if_true,if_false,or_false,false_or,or_true,true_or,decide_eq_true_eq] at hm2
 have h0:0<n.kids.length:=by omega
 have g0:=QG h0
 have h1:1<n.kids.length:=by omega
 have g1:=QG h1
 have h2:2<n.kids.length:=by omega
 have g2:=QG h2
 have hl1:=hl
 rw[←hr,L9] at hl1
 simp -implicitDefEqProofs (maxSteps:=3000000) only[go_sem,zd]
 refine Xu hm ?_
 simp -implicitDefEqProofs (maxSteps:=3000000) only[go_sem,zd]
 refine Q4 hky ?_
 simp -implicitDefEqProofs (maxSteps:=3000000) only[go_sem,zd,D,Int.reduceBEq,Xo]
 refine zX [] mixed rfl ?_
 try simp only[go_sem,zd,List.length_map,Int.reduceToNat,g0,g1,g2]
 refine⟨by omega,?_⟩
 rw[zL]
 refine⟨.sc (.string (ba (zB (zK d) (qI n 0) lo lo))),?_,?_⟩
 ·simp only[go_sem]
  refine Zh hT (Zv hd h0) (Zu hf h0) rfl (by omega) ?_
  exact qt
 try simp only[go_sem,zd,List.length_map,Int.reduceToNat,g0,g1,g2]
 refine⟨by omega,?_⟩
 rw[zL]
 refine⟨.sc (.string (ba (zB (zK d) (qI n 1) lo lo))),?_,?_⟩
 ·simp only[go_sem]
  refine Zh hT (Zv hd h1) (Zu hf h1) rfl (by omega) ?_
  exact qt
 try simp only[go_sem,zd,List.length_map,Int.reduceToNat,g0,g1,g2]
 refine⟨by omega,?_⟩
 rw[zL]
 refine⟨.sc (.string (ba (zB (zK d) (qI n 2) lo lo))),?_,?_⟩
 ·simp only[go_sem]
  refine Zh hT (Zv hd h2) (Zu hf h2) rfl (by omega) ?_
  exact qt
 try simp only[go_sem,zd,List.length_map,Int.reduceToNat,g0,g1,g2]
 rw[zL]
 refine⟨.slice .full 1 ([[105,102],zB (zK d) (qI n 0) lo lo,[116,104,101,110],zB (zK d) (qI n 1) lo lo,[101,108,115,101],zB (zK d) (qI n 2) lo lo].map qD),?_,?_⟩
 ·simp only[go_sem]
  exact⟨⟨[],by simp⟩,ZX _ .full (.inr rfl) _ [[105,102],zB (zK d) (qI n 0) lo lo,[116,104,101,110],zB (zK d) (qI n 1) lo lo,[101,108,115,101],zB (zK d) (qI n 2) lo lo],.inl rfl⟩
 try simp only[go_sem,zd,List.length_map,Int.reduceToNat]
 rw[zL]
 refine⟨.sc (.string (ba (r))),?_,?_⟩
 ·simp only[go_sem]
  refine QM (l:=[[105,102],zB (zK d) (qI n 0) lo lo,[116,104,101,110],zB (zK d) (qI n 1) lo lo,[101,108,115,101],zB (zK d) (qI n 2) lo lo]) (by simp) (by simp) hr hl ?_
  exact qt
 try simp only[go_sem,zd,List.length_map,Int.reduceToNat]
 exact qi (zC _ _) hk
theorem mm {d:Nat} (hT:TxC d) {n:Nd} (hkd:n.kind=12) (hm:Ze n=true) (hd:Dep (d+1) n) (hf:Fit n) {lo:Int} {r:Tx} (hr:Qw (zK d) n lo=r) (hl:r.length≤140737488355328) {K:SV→St→Prop} {st:St} (hk:K (.sc (.string (ba r))) st):ACalls prog 45 [zJ n,.sc (.int .i64 lo)] K st:=by
 refine zn [] func45 rfl results45 ntmps45 ?_
 have hky:Yj n.kind=[]:=by rw[hkd];decide
 rw[ZT _ _ _ hm hky] at hr
 simp only[hkd,Int.reduceEq,if_true,if_false,or_false,false_or,or_true,true_or] at hr
 have D:∀ j:Int,(n.kind==j)=((12:Int)==j):=fun j=>by rw[hkd]
 have hh:=hf.kids.2.1
 have hm2:=hm
 unfold Ze at hm2
 simp only[hkd,Int.reduceEq,if_true,if_false,or_false,false_or,or_true,true_or,decide_eq_true_eq] at hm2
 have h0:0<n.kids.length:=by omega
 have g0:=QG h0
 have h1:1<n.kids.length:=by omega
 have g1:=QG h1
 have hl1:=hl
 rw[←hr,LQ] at hl1
 simp -implicitDefEqProofs (maxSteps:=3000000) only[go_sem,zd]
 refine Xu hm ?_
 simp -implicitDefEqProofs (maxSteps:=3000000) only[go_sem,zd]
 refine Q4 hky ?_
 simp -implicitDefEqProofs (maxSteps:=3000000) only[go_sem,zd,D,Int.reduceBEq,Xo]
 refine zX [] mixed rfl ?_
 try simp only[go_sem,zd,List.length_map,Int.reduceToNat,g0,g1]
 refine⟨by omega,?_⟩
 rw[zL]
 refine⟨.sc (.string (ba (zB (zK d) (qI n 0) 7 7))),?_,?_⟩
 ·simp only[go_sem]
  refine Zh hT (Zv hd h0) (Zu hf h0) rfl (by omega) ?_
  exact qt
 try simp only[go_sem,zd,List.length_map,Int.reduceToNat,g0,g1]
 refine⟨by omega,?_⟩
 rw[zL]
 refine⟨.sc (.string (ba (zB (zK d) (qI n 1) 7 7))),?_,?_⟩
 ·simp only[go_sem]
  refine Zh hT (Zv hd h1) (Zu hf h1) rfl (by omega) ?_
  exact qt
 try simp only[go_sem,zd,List.length_map,Int.reduceToNat,g0,g1]
 rw[zL]
 refine⟨.slice .full 1 ([[116,114,121],zB (zK d) (qI n 0) 7 7,[119,105,116,104],n.text,[45,62],zB (zK d) (qI n 1) 7 7,[101,110,100]].map qD),?_,?_⟩
 ·simp only[go_sem]
  exact⟨⟨[],by simp⟩,ZX _ .full (.inr rfl) _ [[116,114,121],zB (zK d) (qI n 0) 7 7,[119,105,116,104],n.text,[45,62],zB (zK d) (qI n 1) 7 7,[101,110,100]],.inl rfl⟩
 try simp only[go_sem,zd,List.length_map,Int.reduceToNat]
 rw[zL]
 refine⟨.sc (.string (ba (r))),?_,?_⟩
 ·simp only[go_sem]
  refine QM (l:=[[116,114,121],zB (zK d) (qI n 0) 7 7,[119,105,116,104],n.text,[45,62],zB (zK d) (qI n 1) 7 7,[101,110,100]]) (by simp) (by simp) hr hl ?_
  exact qt
 try simp only[go_sem,zd,List.length_map,Int.reduceToNat]
 exact qi (zC _ _) hk
theorem mg {d:Nat} (hT:TxC d) {n:Nd} (hkd:n.kind=13) (hm:Ze n=true) (hd:Dep (d+1) n) (hf:Fit n) {lo:Int} {r:Tx} (hr:Qw (zK d) n lo=r) (hl:r.length≤140737488355328) {K:SV→St→Prop} {st:St} (hk:K (.sc (.string (ba r))) st):ACalls prog 45 [zJ n,.sc (.int .i64 lo)] K st:=by
 refine zn [] func45 rfl results45 ntmps45 ?_
 have hky:Yj n.kind=[]:=by rw[hkd];decide
 rw[ZT _ _ _ hm hky] at hr
 simp only[hkd,Int.reduceEq,if_true,if_false,or_false,false_or,or_true,true_or] at hr
 have D:∀ j:Int,(n.kind==j)=((13:Int)==j):=fun j=>by rw[hkd]
 have hh:=hf.kids.2.1
 have hm2:=hm
 unfold Ze at hm2
 simp only[hkd,Int.reduceEq,if_true,if_false,or_false,false_or,or_true,true_or,decide_eq_true_eq] at hm2
 have h0:0<n.kids.length:=by omega
 have h1:1<n.kids.length:=by omega
 simp -implicitDefEqProofs (maxSteps:=3000000) only[go_sem,zd]
 refine Xu hm ?_
 simp -implicitDefEqProofs (maxSteps:=3000000) only[go_sem,zd]
 refine Q4 hky ?_
 simp -implicitDefEqProofs (maxSteps:=3000000) only[go_sem,zd,D,Int.reduceBEq,Xo]
 refine Cf hT hd hf h1 hr hl ?_
 simp only[go_sem]
 exact qi (zC _ _) hk
theorem cd {d:Nat} (hT:TxC d) {n:Nd} (hkd:n.kind=14) (hm:Ze n=true) (hd:Dep (d+1) n) (hf:Fit n) {lo:Int} {r:Tx} (hr:Qw (zK d) n lo=r) (hl:r.length≤140737488355328) {K:SV→St→Prop} {st:St} (hk:K (.sc (.string (ba r))) st):ACalls prog 45 [zJ n,.sc (.int .i64 lo)] K st:=by
 refine zn [] func45 rfl results45 ntmps45 ?_
 have hky:Yj n.kind=[]:=by rw[hkd];decide
 rw[ZT _ _ _ hm hky] at hr
 simp only[hkd,Int.reduceEq,if_true,if_false,or_false,false_or,or_true,true_or] at hr
 have D:∀ j:Int,(n.kind==j)=((14:Int)==j):=fun j=>by rw[hkd]
 have hh:=hf.kids.2.1
 have hm2:=hm
 unfold Ze at hm2
 simp only[hkd,Int.reduceEq,if_true,if_false,or_false,false_or,or_true,true_or,decide_eq_true_eq] at hm2
 have h0:0<n.kids.length:=by omega
 have g0:=QG h0
 have h1:1<n.kids.length:=by omega
 have g1:=QG h1
 have hl1:=hl
 rw[←hr,Qd] at hl1
 simp -implicitDefEqProofs (maxSteps:=3000000) only[go_sem,zd]
 refine Xu hm ?_
 simp -implicitDefEqProofs (maxSteps:=3000000) only[go_sem,zd]
 refine Q4 hky ?_
 simp -implicitDefEqProofs (maxSteps:=3000000) only[go_sem,zd,D,Int.reduceBEq,Xo]
 refine zX [] mixed rfl ?_
 try simp only[go_sem,zd,List.length_map,Int.reduceToNat,g0,g1]
 refine⟨by omega,?_⟩
 rw[zL]
 refine⟨.sc (.string (ba (zB (zK d) (qI n 0) 5 lo))),?_,?_⟩
 ·simp only[go_sem]
  refine Zh hT (Zv hd h0) (Zu hf h0) rfl (by omega) ?_
  exact qt
 try simp only[go_sem,zd,List.length_map,Int.reduceToNat,g0,g1]
 refine⟨by omega,?_⟩
 rw[zL]
 refine⟨.sc (.string (ba (zB (zK d) (qI n 1) 7 7))),?_,?_⟩
 ·simp only[go_sem]
  refine Zh hT (Zv hd h1) (Zu hf h1) rfl (by omega) ?_
  exact qt
 try simp only[go_sem,zd,List.length_map,Int.reduceToNat,g0,g1]
 rw[zL]
 refine⟨.slice .full 1 ([zB (zK d) (qI n 0) 5 lo,[59],zB (zK d) (qI n 1) 7 7].map qD),?_,?_⟩
 ·simp only[go_sem]
  exact⟨⟨[],by simp⟩,ZX _ .full (.inr rfl) _ [zB (zK d) (qI n 0) 5 lo,[59],zB (zK d) (qI n 1) 7 7],.inl rfl⟩
 try simp only[go_sem,zd,List.length_map,Int.reduceToNat]
 rw[zL]
 refine⟨.sc (.string (ba (r))),?_,?_⟩
 ·simp only[go_sem]
  refine QM (l:=[zB (zK d) (qI n 0) 5 lo,[59],zB (zK d) (qI n 1) 7 7]) (by simp) (by simp) hr hl ?_
  exact qt
 try simp only[go_sem,zd,List.length_map,Int.reduceToNat]
 exact qi (zC _ _) hk
theorem ce {d:Nat} (hT:TxC d) {n:Nd} (hkd:n.kind=11) (hm:Ze n=true) (hd:Dep (d+1) n) (hf:Fit n) {lo:Int} {r:Tx} (hr:Qw (zK d) n lo=r) (hl:r.length≤140737488355328) {K:SV→St→Prop} {st:St} (hk:K (.sc (.string (ba r))) st):ACalls prog 45 [zJ n,.sc (.int .i64 lo)] K st:=by
 refine zn [] func45 rfl results45 ntmps45 ?_
 have hky:Yj n.kind=[]:=by rw[hkd];decide
 rw[ZT _ _ _ hm hky] at hr
 simp only[hkd,Int.reduceEq,if_true,if_false,or_false,false_or,or_true,true_or] at hr
 have D:∀ j:Int,(n.kind==j)=((11:Int)==j):=fun j=>by rw[hkd]
 have hh:=hf.kids.2.1
 have hm2:=hm
 unfold Ze at hm2
 simp only[hkd,Int.reduceEq,if_true,if_false,or_false,false_or,or_true,true_or,decide_eq_true_eq] at hm2
 have h0:0<n.kids.length:=by omega
 have g0:=QG h0
 have hl1:=hl
 rw[←hr,List.length_append,List.length_append,Qd] at hl1
 have hl2:(Ql [[109,97,116,99,104],zB (zK d) (qI n 0) 7 7,[119,105,116,104]]).length≤140737488355328:=by rw[Qd];omega
 simp -implicitDefEqProofs (maxSteps:=3000000) only[go_sem,zd]
 refine Xu hm ?_
 simp -implicitDefEqProofs (maxSteps:=3000000) only[go_sem,zd]
 refine Q4 hky ?_
 simp -implicitDefEqProofs (maxSteps:=3000000) only[go_sem,zd,D,Int.reduceBEq,Xo]
 refine zX [] mixed rfl ?_
 try simp only[go_sem,zd,List.length_map,Int.reduceToNat,g0]
 refine⟨by omega,?_⟩
 rw[zL]
 refine⟨.sc (.string (ba (zB (zK d) (qI n 0) 7 7))),?_,?_⟩
 ·simp only[go_sem]
  refine Zh hT (Zv hd h0) (Zu hf h0) rfl (by omega) ?_
  exact qt
 try simp only[go_sem,zd,List.length_map,Int.reduceToNat,g0]
 rw[zL]
 refine⟨.slice .full 1 ([[109,97,116,99,104],zB (zK d) (qI n 0) 7 7,[119,105,116,104]].map qD),?_,?_⟩
 ·simp only[go_sem]
  exact⟨⟨[],by simp⟩,ZX _ .full (.inr rfl) _ [[109,97,116,99,104],zB (zK d) (qI n 0) 7 7,[119,105,116,104]],.inl rfl⟩
 try simp only[go_sem,zd,List.length_map,Int.reduceToNat]
 rw[zL]
 refine⟨.sc (.string (ba (Ql [[109,97,116,99,104],zB (zK d) (qI n 0) 7 7,[119,105,116,104]]))),?_,?_⟩
 ·simp only[go_sem]
  refine QM (l:=[[109,97,116,99,104],zB (zK d) (qI n 0) 7 7,[119,105,116,104]]) (by simp) (by simp) rfl hl2 ?_
  exact qt
 try simp only[go_sem,zd,List.length_map,Int.reduceToNat]
 refine⟨by omega,?_⟩
 rw[zL]
 refine⟨.sc (.string (ba (YB (zK d) [] n.kids.tail))),?_,?_⟩
 ·simp only[go_sem]
  refine xd hT hd.kids hf.kids.1 hh rfl (by omega) ?_
  exact qt
 try simp only[go_sem,zd,List.length_map,Int.reduceToNat]
 have e:ba (Ql [[109,97,116,99,104],zB (zK d) (qI n 0) 7 7,[119,105,116,104]])++ba (YB (zK d) [] n.kids.tail)++(⟨#[32,101,110,100]⟩:ByteArray)=ba r:=by
  rw[show (⟨#[32,101,110,100]⟩:ByteArray)=ba [32,101,110,100] from rfl,Jq,Jq,hr]
 rw[e]
 refine⟨?_,?_,qi (zC _ _) hk⟩
 ·simp only[List.size_toArray];omega
 ·simp only[List.size_toArray,List.length_cons,List.length_nil] at hl1 ⊢;omega
theorem bc {d:Nat} (hT:TxC d) {n:Nd} (hkd:n.kind=1) (hm:Ze n=true) (hd:Dep (d+1) n) (hf:Fit n) {lo:Int} {r:Tx} (hr:Qw (zK d) n lo=r) (hl:r.length≤140737488355328) {K:SV→St→Prop} {st:St} (hk:K (.sc (.string (ba r))) st):ACalls prog 45 [zJ n,.sc (.int .i64 lo)] K st:=by
 refine zn [] func45 rfl results45 ntmps45 ?_
 have hky:Yj n.kind=[]:=by rw[hkd];decide
 rw[ZT _ _ _ hm hky] at hr
 simp only[hkd,Int.reduceEq,if_true,if_false,or_false,false_or,or_true,true_or] at hr
 have D:∀ j:Int,(n.kind==j)=((1:Int)==j):=fun j=>by rw[hkd]
 have hh:=hf.kids.2.1
 simp -implicitDefEqProofs (maxSteps:=3000000) only[go_sem,zd]
 refine Xu hm ?_
 simp -implicitDefEqProofs (maxSteps:=3000000) only[go_sem,zd]
 refine Q4 hky ?_
 simp -implicitDefEqProofs (maxSteps:=3000000) only[go_sem,zd,D,Int.reduceBEq,Xo]
 refine tY ?_
 simp only[go_sem]
 subst hr
 exact qi (zC _ _) hk
theorem np {d:Nat} (hT:TxC d) {n:Nd} (hkd:n.kind=2) (hm:Ze n=true) (hd:Dep (d+1) n) (hf:Fit n) {lo:Int} {r:Tx} (hr:Qw (zK d) n lo=r) (hl:r.length≤140737488355328) {K:SV→St→Prop} {st:St} (hk:K (.sc (.string (ba r))) st):ACalls prog 45 [zJ n,.sc (.int .i64 lo)] K st:=by
 refine zn [] func45 rfl results45 ntmps45 ?_
 have hky:Yj n.kind=[]:=by rw[hkd];decide
 rw[ZT _ _ _ hm hky] at hr
 simp only[hkd,Int.reduceEq,if_true,if_false,or_false,false_or,or_true,true_or] at hr
 have D:∀ j:Int,(n.kind==j)=((2:Int)==j):=fun j=>by rw[hkd]
 have hh:=hf.kids.2.1
 simp -implicitDefEqProofs (maxSteps:=3000000) only[go_sem,zd]
 refine Xu hm ?_
 simp -implicitDefEqProofs (maxSteps:=3000000) only[go_sem,zd]
 refine Q4 hky ?_
 simp -implicitDefEqProofs (maxSteps:=3000000) only[go_sem,zd,D,Int.reduceBEq,Xo]
 refine dD hf.kids.2.2.2 ?_
 simp only[go_sem]
 subst hr
 exact qi (zC _ _) hk
theorem nC {d:Nat} (hT:TxC d) {n:Nd} (hm:Ze n=false) (hd:Dep (d+1) n) (hf:Fit n) {lo:Int} {r:Tx} (hr:Qw (zK d) n lo=r) (hl:r.length≤140737488355328) {K:SV→St→Prop} {st:St} (hk:K (.sc (.string (ba r))) st):ACalls prog 45 [zJ n,.sc (.int .i64 lo)] K st:=by
 refine zn [] func45 rfl results45 ntmps45 ?_
 unfold Qw at hr
 rw[if_pos hm] at hr
 subst hr
 simp -implicitDefEqProofs (maxSteps:=3000000) only[go_sem,zd]
 refine Xu hm ?_
 simp -implicitDefEqProofs (maxSteps:=3000000) only[go_sem,zd]
 exact qi (zC _ _) hk
theorem dr {d:Nat} (hT:TxC d) {n:Nd} (hm:Ze n=true) (hky:Yj n.kind≠[]) (hd:Dep (d+1) n) (hf:Fit n) {lo:Int} {r:Tx} (hr:Qw (zK d) n lo=r) (hl:r.length≤140737488355328) {K:SV→St→Prop} {st:St} (hk:K (.sc (.string (ba r))) st):ACalls prog 45 [zJ n,.sc (.int .i64 lo)] K st:=by
 refine zn [] func45 rfl results45 ntmps45 ?_
 unfold Qw at hr
 rw[if_neg (by rw[hm];decide),if_pos hky] at hr
 have e:(!(Yj n.kind==[]))=true:=by simp[hky]
 simp -implicitDefEqProofs (maxSteps:=3000000) only[go_sem,zd]
 refine Xu hm ?_
 simp -implicitDefEqProofs (maxSteps:=3000000) only[go_sem,zd]
 refine Q4 rfl ?_
 simp -implicitDefEqProofs (maxSteps:=3000000) only[go_sem,zd,e,Zm]
 refine FQ hT hd.kids hf.kids.1 hf.kids.2.1 hr hl ?_
 simp only[go_sem]
 exact qi (zC _ _) hk
theorem d' {d:Nat} (hT:TxC d) {n:Nd} (hm:Ze n=true) (hky:Yj n.kind=[]) (d1:n.kind≠1) (d2:n.kind≠2) (d3:n.kind≠3) (d4:n.kind≠4) (d5:n.kind≠5) (d27:n.kind≠27) (d24:n.kind≠24) (d19:n.kind≠19) (d6:n.kind≠6) (d7:n.kind≠7) (d8:n.kind≠8) (d9:n.kind≠9) (d10:n.kind≠10) (d11:n.kind≠11) (d12:n.kind≠12) (d13:n.kind≠13) (d14:n.kind≠14) (hd:Dep (d+1) n) (hf:Fit n) {lo:Int} {r:Tx} (hr:Qw (zK d) n lo=r) (hl:r.length≤140737488355328) {K:SV→St→Prop} {st:St} (hk:K (.sc (.string (ba r))) st):ACalls prog 45 [zJ n,.sc (.int .i64 lo)] K st:=by
 refine zn [] func45 rfl results45 ntmps45 ?_
 rw[ZT _ _ _ hm hky] at hr
 simp only[d1,d2,d3,d4,d5,d27,d24,d19,d6,d7,d8,d9,d10,d11,d12,d13,d14,if_false,or_self] at hr
 subst hr
 have e1:(n.kind==1)=false:=by simp[d1]
 have e2:(n.kind==2)=false:=by simp[d2]
 have e3:(n.kind==3)=false:=by simp[d3]
 have e4:(n.kind==4)=false:=by simp[d4]
 have e5:(n.kind==5)=false:=by simp[d5]
 have e27:(n.kind==27)=false:=by simp[d27]
 have e24:(n.kind==24)=false:=by simp[d24]
 have e19:(n.kind==19)=false:=by simp[d19]
 have e6:(n.kind==6)=false:=by simp[d6]
 have e7:(n.kind==7)=false:=by simp[d7]
 have e8:(n.kind==8)=false:=by simp[d8]
 have e9:(n.kind==9)=false:=by simp[d9]
 have e10:(n.kind==10)=false:=by simp[d10]
 have e11:(n.kind==11)=false:=by simp[d11]
 have e12:(n.kind==12)=false:=by simp[d12]
 have e13:(n.kind==13)=false:=by simp[d13]
 have e14:(n.kind==14)=false:=by simp[d14]
 simp -implicitDefEqProofs (maxSteps:=3000000) only[go_sem,zd]
 refine Xu hm ?_
 simp -implicitDefEqProofs (maxSteps:=3000000) only[go_sem,zd]
 refine Q4 hky ?_
 simp -implicitDefEqProofs (maxSteps:=3000000) only[go_sem,zd,Xo,e1,e2,e3,e4,e5,e27,e24,e19,e6,e7,e8,e9,e10,e11,e12,e13,e14]
 exact qi (zC _ _) hk
theorem nR {d:Nat} (hT:TxC d):TxC (d+1):=by
 intro n lo r hd hf hr hl K st hk
 have hr:Qw (zK d) n lo=r:=hr
 cases hm:Ze n with
 | false=>exact nC hT hm hd hf hr hl hk
 | true =>
 by_cases hky:Yj n.kind=[]
 rotate_left
 ·exact dr hT hm hky hd hf hr hl hk
 by_cases c1:n.kind=1
 ·exact bc hT c1 hm hd hf hr hl hk
 by_cases c2:n.kind=2
 ·exact np hT c2 hm hd hf hr hl hk
 by_cases c3:n.kind=3
 ·exact nq hT c3 hm hd hf hr hl hk
 by_cases c4:n.kind=4
 ·exact n6 hT c4 hm hd hf hr hl hk
 by_cases c5:n.kind=5
 ·exact nt hT c5 hm hd hf hr hl hk
 by_cases c27:n.kind=27
 ·exact xW hT c27 hm hd hf hr hl hk
 by_cases c24:n.kind=24
 ·exact gk hT c24 hm hd hf hr hl hk
 by_cases c19:n.kind=19
 ·exact mt hT c19 hm hd hf hr hl hk
 by_cases c6:n.kind=6
 ·exact dp hT c6 hm hd hf hr hl hk
 by_cases c7:n.kind=7
 ·exact bf hT c7 hm hd hf hr hl hk
 by_cases c8:n.kind=8
 ·exact bJ hT c8 hm hd hf hr hl hk
 by_cases c9:n.kind=9
 ·exact dL hT c9 hm hd hf hr hl hk
 by_cases c10:n.kind=10
 ·exact xR hT c10 hm hd hf hr hl hk
 by_cases c11:n.kind=11
 ·exact ce hT c11 hm hd hf hr hl hk
 by_cases c12:n.kind=12
 ·exact mm hT c12 hm hd hf hr hl hk
 by_cases c13:n.kind=13
 ·exact mg hT c13 hm hd hf hr hl hk
 by_cases c14:n.kind=14
 ·exact cd hT c14 hm hd hf hr hl hk
 exact d' hT hm hky c1 c2 c3 c4 c5 c27 c24 c19 c6 c7 c8 c9 c10 c11 c12 c13 c14 hd hf hr hl hk
theorem Wg:∀ d,TxC d
 | 0=>fun n lo r hd=>by obtain⟨k,hk⟩:=hd.pos;cases hk
 | d+1=>nR (Wg d)
end Go.Proofs
namespace Go.AL
theorem Bn (T:Nd→Tx):∀ (l:List Nd) (w:Tx),w.length≤(XT T w l).length
 | [],w=>Nat.le_refl _
 | k::r,w=>by
  have h:=Bn T r (if 0<k.kids.length then Ql [w,[40],T k,[41]] else Ql [w,T k])
  have h2:w.length≤(if 0<k.kids.length then Ql [w,[40],T k,[41]] else Ql [w,T k]).length:=by
   split
   ·rw[Xd];omega
   ·rw[Z4];omega
  exact Nat.le_trans h2 h
theorem ub (T:Nd→Tx):∀ (l:List Nd) (i:Nat) (w:Tx),w.length≤(UP T i w l).length
 | [],_,w=>Nat.le_refl _
 | k::r,i,w=>by
  have h:=ub T r (i+1) (Ql [w,if i=0 then [111,102] else [44],T k])
  rw[Qd] at h
  show _≤(UP T _ _ r).length
  omega
theorem D0 (d:Nat):∀ (l:List Nd) (i:Nat) (w:Tx),w.length≤(Vn d i w l).length
 | [],_,w=>Nat.le_refl _
 | k::r,i,w=>by
  have h:=D0 d r (i+1) (Ql [if 0<i then Ql [w,[124]] else w,Ut d k])
  rw[Z4] at h
  have h2:w.length≤(if 0<i then Ql [w,[124]] else w).length:=by
   split
   ·rw[Z4];omega
   ·omega
  show _≤(Vn d _ _ r).length
  omega
end Go.AL
namespace Go.Proofs
open Go Go.AL Tryz
def TyC (d:Nat):Prop:=∀ (n:Nd) (r:Tx),Dep d n→Fit n→ZU d n=r→r.length≤140737488355328→∀ (K:SV→St→Prop) (st:St),K (.sc (.string (ba r))) st→ACalls prog 64 [zJ n] K st
theorem TyC.agg {d:Nat} (hT:TyC d) {n:Nd} {r:Tx} (hd:Dep d n) (hf:Fit n) (hr:ZU d n=r) (hl:r.length≤140737488355328) {K:SV→St→Prop} {st:St} (hk:K (.sc (.string (ba r))) st) :
  ACalls prog 64 [.agg [.sc (.int .i64 n.kind),.sc (.string (ba n.text)),.sc (.int .i64 n.num),.sc (.int .i64 n.pos),.slice .imm 1 (n.names.map qD),.slice .imm 6 (n.kids.map zJ)]] K st:=by
 have:=hT n r hd hf hr hl K st hk
 rw[Zz] at this
 exact this
theorem mF {d:Nat} (hT:TyC d):TyC (d+1):=by
 intro n r hd hf hr hl K st hk
 refine zn [] func64 rfl results64 ntmps64 ?_
 have hn:=hf.kids.2.1
 generalize hL:n.kids=l at *
 have hr:XT (ZU d) n.text l=r:=by rw[←hr,←hL];rfl
 have hd:∀ c∈l,Dep d c:=by rw[←hL];exact hd.kids
 have hf:∀ c∈l,Fit c:=by rw[←hL];exact hf.kids.1
 simp only[go_sem,zd,List.length_map,hL]
 refine zN [] (fun k env s=>∃ (i:Nat) (v:Tx) (ex:St),k+i=l.length∧XT (ZU d) v (l.drop i)=r∧env=[.any,.any,.any,.sc (.string (ba v)),.any,.any,.any,.any,.any,.slice .imm 6 (l.map zJ),.sc (.int .i64 l.length),.sc (.int .i64 i),.any,.any,.any,.any,.any,.any,.any,.any,.any,.any,.any,.any,.any,.any,.any,.any,.any,.any,.any]∧s=st++ex) (n:=l.length) ?_ ⟨0,n.text,[],by omega,hr,rfl,by simp⟩ ?_
 ·repeat (first | exact zj | refine zk _ ?_ | refine zg _ ?_ | refine zf _ ?_)
 rintro k env s ⟨i,v,ex,hi,hv,rfl,rfl⟩
 by_cases hlt:i<l.length
 ·have c2:decide ((i:Int)<(l.length:Int))=true:=by simp;omega
  have w1:IntKind.i64.wrap ((i:Int)+1)=((i+1:Nat):Int):=by rw[IntWalk.i64_in _ (by omega)];rfl
  have g1:=XD hlt
  rw[List.drop_eq_getElem_cons hlt] at hv
  have hv:XT (ZU d) (if 0<l[i].kids.length then Ql [v,[40],ZU d l[i],[41]] else Ql [v,ZU d l[i]]) (l.drop (i+1))=r:=hv
  have hle:=Bn (ZU d) (l.drop (i+1)) (if 0<l[i].kids.length then Ql [v,[40],ZU d l[i],[41]] else Ql [v,ZU d l[i]])
  rw[hv] at hle
  have hd1:=hd _ (List.getElem_mem hlt)
  have hf1:=hf _ (List.getElem_mem hlt)
  by_cases c:0<l[i].kids.length
  ·have b1:decide (0<(l[i].kids.length:Int))=true:=by rw[decide_eq_true_eq];omega
   rw[if_pos c] at hv hle
   have hle2:=hle
   rw[Xd] at hle2
   simp only[go_sem,c2,w1,List.length_map,g1,zd,b1]
   refine⟨by omega,?_⟩
   refine hT.agg hd1 hf1 rfl (by omega) ?_
   simp only[go_sem,w1]
   refine QM (l:=[v,[40],ZU d l[i],[41]]) (by simp) (by simp) rfl (by omega) ?_
   simp only[go_sem,w1]
   refine⟨k-1,_,by omega,?_,i+1,_,_,by omega,hv,rfl,rfl⟩
   repeat (first | exact zj | refine zk _ ?_ | refine zg _ ?_ | refine zf _ ?_)
  ·have b1:decide (0<(l[i].kids.length:Int))=false:=by rw[decide_eq_false_iff_not];omega
   rw[if_neg c] at hv hle
   have hle2:=hle
   rw[Z4] at hle2
   simp only[go_sem,c2,w1,List.length_map,g1,zd,b1]
   refine⟨by omega,?_⟩
   refine hT.agg hd1 hf1 rfl (by omega) ?_
   simp only[go_sem,w1]
   refine QM (l:=[v,ZU d l[i]]) (by simp) (by simp) rfl (by omega) ?_
   simp only[go_sem,w1]
   refine⟨k-1,_,by omega,?_,i+1,_,_,by omega,hv,rfl,rfl⟩
   repeat (first | exact zj | refine zk _ ?_ | refine zg _ ?_ | refine zf _ ?_)
 ·have c2:decide ((i:Int)<(l.length:Int))=false:=by simp;omega
  rw[List.drop_of_length_le (by omega)] at hv
  have hv:v=r:=hv
  subst hv
  simp only[go_sem,c2]
  exact zQ (zC _ _) hk
theorem FT:∀ d,TyC d
 | 0=>fun n r hd=>by obtain⟨k,hk⟩:=hd.pos;cases hk
 | d+1=>mF (FT d)
theorem ir {d:Nat} {n:Nd} (hd:Dep (d+1) n) (hf:Fit n) {r:Tx} (hr:Ut d n=r) (hl:r.length≤140737488355328) {K:SV→St→Prop} {st:St} (hk:K (.sc (.string (ba r))) st):ACalls prog 43 [zJ n] K st:=by
 refine zn [] func43 rfl results43 ntmps43 ?_
 have hn:=hf.kids.2.1
 generalize hL:n.kids=l at *
 have hr:UP (ZU d) 0 n.text l=r:=by rw[←hr,←hL];rfl
 have hd:∀ c∈l,Dep d c:=by rw[←hL];exact hd.kids
 have hf:∀ c∈l,Fit c:=by rw[←hL];exact hf.kids.1
 simp only[go_sem,zd,List.length_map,hL]
 refine zN [] (fun k env s=>∃ (i:Nat) (v:Tx) (ex:St),k+i=l.length∧UP (ZU d) i v (l.drop i)=r∧env=[.any,.any,.any,.sc (.string (ba v)),.any,.any,.any,.any,.any,.any,.slice .imm 6 (l.map zJ),.sc (.int .i64 l.length),.sc (.int .i64 i),.any,.any,.any,.any,.any,.any,.any,.any,.any,.any,.any,.any,.any,.any]∧s=st++ex) (n:=l.length) ?_ ⟨0,n.text,[],by omega,hr,rfl,by simp⟩ ?_
 ·repeat (first | exact zj | refine zk _ ?_ | refine zg _ ?_ | refine zf _ ?_)
 rintro k env s ⟨i,v,ex,hi,hv,rfl,rfl⟩
 by_cases hlt:i<l.length
 ·have c2:decide ((i:Int)<(l.length:Int))=true:=by simp;omega
  have w1:IntKind.i64.wrap ((i:Int)+1)=((i+1:Nat):Int):=by rw[IntWalk.i64_in _ (by omega)];rfl
  have g1:=XD hlt
  rw[List.drop_eq_getElem_cons hlt] at hv
  have hv:UP (ZU d) (i+1) (Ql [v,if i=0 then [111,102] else [44],ZU d l[i]]) (l.drop (i+1))=r:=hv
  have hle:=ub (ZU d) (l.drop (i+1)) (i+1) (Ql [v,if i=0 then [111,102] else [44],ZU d l[i]])
  rw[hv] at hle
  have hle2:=hle
  rw[Qd] at hle2
  have hd1:=hd _ (List.getElem_mem hlt)
  have hf1:=hf _ (List.getElem_mem hlt)
  by_cases c:i=0
  ·have b1:((i:Int)==0)=true:=by simp[c]
   rw[if_pos c] at hv hle hle2
   simp only[go_sem,c2,w1,List.length_map,g1,zd,b1]
   refine⟨by omega,?_⟩
   refine (FT d).agg hd1 hf1 rfl (by omega) ?_
   simp only[go_sem,w1]
   refine QM (l:=[v,[111,102],ZU d l[i]]) (by simp) (by simp) rfl (by omega) ?_
   simp only[go_sem,w1]
   refine⟨k-1,_,by omega,?_,i+1,_,_,by omega,hv,rfl,rfl⟩
   repeat (first | exact zj | refine zk _ ?_ | refine zg _ ?_ | refine zf _ ?_)
  ·have b1:((i:Int)==0)=false:=by simp[c]
   rw[if_neg c] at hv hle hle2
   simp only[go_sem,c2,w1,List.length_map,g1,zd,b1]
   refine⟨by omega,?_⟩
   refine (FT d).agg hd1 hf1 rfl (by omega) ?_
   simp only[go_sem,w1]
   refine QM (l:=[v,[44],ZU d l[i]]) (by simp) (by simp) rfl (by omega) ?_
   simp only[go_sem,w1]
   refine⟨k-1,_,by omega,?_,i+1,_,_,by omega,hv,rfl,rfl⟩
   repeat (first | exact zj | refine zk _ ?_ | refine zg _ ?_ | refine zf _ ?_)
 ·have c2:decide ((i:Int)<(l.length:Int))=false:=by simp;omega
  rw[List.drop_of_length_le (by omega)] at hv
  have hv:v=r:=hv
  subst hv
  simp only[go_sem,c2]
  exact zQ (zC _ _) hk
end Go.Proofs
namespace Go.Proofs
open Go Go.AL Tryz
theorem tS {m:Go.AL.Mode} {x:List SV} {l:List Tx} (hx:x=l.map qD) (h0:l≠[]) (hn:l.length≤1000000) {r:Tx} (hr:Ql l=r) (hl:r.length≤140737488355328) {K:SV→St→Prop} {st:St} (hk:K (.sc (.string (ba r))) st):ACalls prog 26 [.slice m 1 x] K st:=by
 subst hx;exact QM h0 hn hr hl hk
theorem te {n:Nat} (h:n≤1000000):AppOk prog 23 23 1 n:=JW Tryz.aelem23 Tryz.aelem23 Tryz.asize9 Tryz.azero9 rfl Tryz.abytes9 (by omega) h
theorem so {d:Nat} {n:Nd} (hd:Dep (d+1) n) (hf:Fit n) {r:Tx} (hr:Ut d n=r) (hl:r.length≤140737488355328) {K:SV→St→Prop} {st:St} (hk:K (.sc (.string (ba r))) st) :
  ACalls prog 43 [.agg [.sc (.int .i64 n.kind),.sc (.string (ba n.text)),.sc (.int .i64 n.num),.sc (.int .i64 n.pos),.slice .imm 1 (n.names.map qD),.slice .imm 6 (n.kids.map zJ)]] K st:=by
 have:=ir hd hf hr hl hk
 rw[Zz] at this
 exact this
theorem nS {d:Nat} {n:Nd} (h25:n.kind=25) (hd:Dep (d+1) n) (hf:Fit n) {r:Tx} (hr:XE d n=r) (hl:r.length≤140737488355328) {K:SV→St→Prop} {st:St} (hk:K (.sc (.string (ba r))) st):ACalls prog 27 [zJ n] K st:=by
 refine zn [] func27 rfl results27 ntmps27 ?_
 have e28:(n.kind==28)=false:=by simp[h25]
 have e29:(n.kind==29)=false:=by simp[h25]
 have e25:(n.kind != 25)=false:=by simp[h25]
 have hn:=hf.kids.2.1
 have hns:=hf.kids.2.2.1
 generalize hw:Ql (([[116,121,112,101],n.text]++n.names)++[[61]])=w
 have hr:Vn d 0 w n.kids=r:=by
  rw[←hr,←hw];unfold XE;rw[if_neg (by rw[h25];simp),if_neg (by rw[h25];simp),if_neg (by rw[h25];simp)]
 have hle0:=D0 d n.kids 0 w
 rw[hr] at hle0
 have hmap:(SV.sc (.string ⟨#[116,121,112,101]⟩)::SV.sc (.string (ba n.text))::(n.names.map qD++[SV.sc (.string ⟨#[61]⟩)]))=(([[116,121,112,101],n.text]++n.names)++[[61]]:List Tx).map qD:=by
  simp[qD]
 simp only[go_sem,zd,List.length_map,e28,e29,e25]
 refine⟨te (by omega),te (by omega),?_⟩
 refine tS hmap (by simp) (by simp;omega) hw (by omega) ?_
 simp only[go_sem,zd,List.length_map]
 generalize hL:n.kids=l at *
 have hd:∀ c∈l,Dep d c:=by rw[←hL];exact hd.kids
 have hf:∀ c∈l,Fit c:=by rw[←hL];exact hf.kids.1
 refine zN [] (fun k env s=>∃ (i:Nat) (v:Tx) (ex:St),k+i=l.length∧Vn d i v (l.drop i)=r∧env=[.any,.any,.any,.sc (.string (ba v)),.any,.any,.any,.any,.any,.any,.any,.any,.any,.any,.any,.any,.any,.any,.any,.any,.any,.any,.any,.any,.any,.any,.any,.any,.any,.any,.any,.any,.any,.any,.any,.any,.any,.any,.any,.any,.slice .imm 6 (l.map zJ),.sc (.int .i64 l.length),.sc (.int .i64 i),.any,.any,.any,.any,.any,.any,.any,.any,.any,.any,.any,.any,.any,.any,.any,.any]∧s=st++ex) (n:=l.length) ?_ ⟨0,w,[.tok 1],by omega,hr,rfl,rfl⟩ ?_
 ·repeat (first | exact zj | refine zk _ ?_ | refine zg _ ?_ | refine zf _ ?_)
 rintro k env s ⟨i,v,ex,hi,hv,rfl,rfl⟩
 by_cases hlt:i<l.length
 ·have c2:decide ((i:Int)<(l.length:Int))=true:=by simp;omega
  have w1:IntKind.i64.wrap ((i:Int)+1)=((i+1:Nat):Int):=by rw[IntWalk.i64_in _ (by omega)];rfl
  have g1:=XD hlt
  rw[List.drop_eq_getElem_cons hlt] at hv
  have hv:Vn d (i+1) (Ql [if 0<i then Ql [v,[124]] else v,Ut d l[i]]) (l.drop (i+1))=r:=hv
  have hle:=D0 d (l.drop (i+1)) (i+1) (Ql [if 0<i then Ql [v,[124]] else v,Ut d l[i]])
  rw[hv] at hle
  have hle2:=hle
  rw[Z4] at hle2
  have hd1:Dep (d+1) l[i]:=(hd _ (List.getElem_mem hlt)).mono (Nat.le_succ d)
  have hf1:=hf _ (List.getElem_mem hlt)
  by_cases c:0<i
  ·have b1:decide (0<(i:Int))=true:=by rw[decide_eq_true_eq];omega
   rw[if_pos c] at hv hle hle2
   simp only[go_sem,c2,w1,List.length_map,g1,zd,gt_iff_lt,b1]
   refine⟨by omega,?_⟩
   refine QM (l:=[v,[124]]) (by simp) (by simp) rfl (by omega) ?_
   simp only[go_sem,w1]
   refine so hd1 hf1 rfl (by omega) ?_
   simp only[go_sem,w1]
   refine QM (l:=[Ql [v,[124]],Ut d l[i]]) (by simp) (by simp) rfl (by omega) ?_
   simp only[go_sem,w1]
   refine⟨k-1,_,by omega,?_,i+1,_,_,by omega,hv,rfl,rfl⟩
   repeat (first | exact zj | refine zk _ ?_ | refine zg _ ?_ | refine zf _ ?_)
  ·have b1:decide (0<(i:Int))=false:=by rw[decide_eq_false_iff_not];omega
   rw[if_neg c] at hv hle hle2
   simp only[go_sem,c2,w1,List.length_map,g1,zd,gt_iff_lt,b1]
   refine⟨by omega,?_⟩
   refine so hd1 hf1 rfl (by omega) ?_
   simp only[go_sem,w1]
   refine QM (l:=[v,Ut d l[i]]) (by simp) (by simp) rfl (by omega) ?_
   simp only[go_sem,w1]
   refine⟨k-1,_,by omega,?_,i+1,_,_,by omega,hv,rfl,rfl⟩
   repeat (first | exact zj | refine zk _ ?_ | refine zg _ ?_ | refine zf _ ?_)
 ·have c2:decide ((i:Int)<(l.length:Int))=false:=by simp;omega
  rw[List.drop_of_length_le (by omega)] at hv
  have hv:v=r:=hv
  subst hv
  simp only[go_sem,c2]
  exact zQ (zC _ _) hk
theorem nu {d:Nat} {n:Nd} (h25:n.kind≠25) (hd:Dep (d+1) n) (hf:Fit n) {r:Tx} (hr:XE d n=r) (hl:r.length≤140737488355328) {K:SV→St→Prop} {st:St} (hk:K (.sc (.string (ba r))) st):ACalls prog 27 [zJ n] K st:=by
 refine zn [] func27 rfl results27 ntmps27 ?_
 have e25:(n.kind != 25)=true:=by simp[h25]
 unfold XE at hr
 by_cases c28:n.kind=28
 ·have e28:(n.kind==28)=true:=by simp[c28]
  have e29:(n.kind==29)=false:=by simp[c28]
  cases hm:Ze n with
  | true =>
   rw[if_pos ⟨c28,hm⟩] at hr
   have h1:0<n.kids.length:=by
    unfold Ze at hm
    simp only[c28] at hm
    simp at hm;omega
   simp only[go_sem,zd,e28]
   refine Xu hm ?_
   simp only[go_sem,zd,e28]
   refine uI (Wg d) hd hf h1 (w:=[108,101,116]) rfl hr hl ?_
   simp only[go_sem]
   exact qi (zC _ _) hk
  | false =>
   rw[if_neg (by rw[hm];simp),if_neg (by rw[c28];simp),if_pos h25] at hr
   subst hr
   simp only[go_sem,zd,e28,e29]
   refine Xu hm ?_
   simp only[go_sem,zd,e28,e29,e25]
   exact qi (zC _ _) hk
 have e28:(n.kind==28)=false:=by simp[c28]
 rw[if_neg (fun h=>c28 h.1)] at hr
 by_cases c29:n.kind=29
 ·have e29:(n.kind==29)=true:=by simp[c29]
  cases hm:Ze n with
  | true =>
   rw[if_pos ⟨c29,hm⟩] at hr
   have h1:0<n.kids.length:=by
    unfold Ze at hm
    simp only[c29] at hm
    simp at hm;omega
   simp only[go_sem,zd,e28,e29]
   refine Xu hm ?_
   simp only[go_sem,zd,e28,e29]
   refine uI (Wg d) hd hf h1 (w:=[108,101,116,32,114,101,99]) rfl hr hl ?_
   simp only[go_sem]
   exact qi (zC _ _) hk
  | false =>
   rw[if_neg (by rw[hm];simp),if_pos h25] at hr
   subst hr
   simp only[go_sem,zd,e28,e29]
   refine Xu hm ?_
   simp only[go_sem,zd,e28,e29,e25]
   exact qi (zC _ _) hk
 have e29:(n.kind==29)=false:=by simp[c29]
 rw[if_neg (fun h=>c29 h.1),if_pos h25] at hr
 subst hr
 simp only[go_sem,zd,e28,e29,e25]
 exact qi (zC _ _) hk
theorem db {d:Nat} {n:Nd} (hd:Dep (d+1) n) (hf:Fit n) {r:Tx} (hr:XE d n=r) (hl:r.length≤140737488355328) {K:SV→St→Prop} {st:St} (hk:K (.sc (.string (ba r))) st):ACalls prog 27 [zJ n] K st:=by
 by_cases h:n.kind=25
 ·exact nS h hd hf hr hl hk
 ·exact nu h hd hf hr hl hk
theorem sq {d:Nat} {n:Nd} (hd:Dep (d+1) n) (hf:Fit n) {r:Tx} (hr:XE d n=r) (hl:r.length≤140737488355328) {K:SV→St→Prop} {st:St} (hk:K (.sc (.string (ba r))) st) :
  ACalls prog 27 [.agg [.sc (.int .i64 n.kind),.sc (.string (ba n.text)),.sc (.int .i64 n.num),.sc (.int .i64 n.pos),.slice .imm 1 (n.names.map qD),.slice .imm 6 (n.kids.map zJ)]] K st:=by
 have:=db hd hf hr hl hk
 rw[Zz] at this
 exact this
end Go.Proofs
