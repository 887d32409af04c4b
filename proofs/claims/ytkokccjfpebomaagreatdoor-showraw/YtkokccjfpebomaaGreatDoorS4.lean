/- show.text. -/
import Derived.Test.YtkokccjfpebomaaGreatDoorS3
set_option linter.all false
set_option maxHeartbeats 4000000
set_option maxRecDepth 8000
namespace Go.Proofs
open Go Go.AL Tryz
theorem gJ{d:Nat}(hT:TxC d){n:Nd}(hd:Dep (d+1) n)(hf:Fit n)(h1:0<n.kids.length){w:Tx}{x:ByteArray}(hx:x=ba w){lo:Int}{r:Tx}(hr:Qm (zo d) w n lo=r)(hl:r.length≤140737488355328){K:SV→St→Prop}{st:St}(hk:K (.sc (.string (ba r))) st) :
  ACalls prog 42 [.sc (.string x),.agg [.sc (.int .i64 n.kind),.sc (.string (ba n.text)),.sc (.int .i64 n.num),.sc (.int .i64 n.pos),.slice .imm 1 (n.names.map qc),.slice .imm 6 (n.kids.map zq)],.sc (.int .i64 lo)] K st:=by
 subst hx;have:=Ck hT hd hf h1 hr hl hk;rw[qG] at this;exact this
theorem R0{d:Nat}(hT:TxC d){n:Nd}(hd:Dep (d+1) n)(hf:Fit n)(h2:1<n.kids.length){lo:Int}{r:Tx}(hr:fV (zo d) n lo=r)(hl:r.length≤140737488355328){K:SV→St→Prop}{st:St}(hk:K (.sc (.string (ba r))) st) :
  ACalls prog 70 [.agg [.sc (.int .i64 n.kind),.sc (.string (ba n.text)),.sc (.int .i64 n.num),.sc (.int .i64 n.pos),.slice .imm 1 (n.names.map qc),.slice .imm 6 (n.kids.map zq)],.sc (.int .i64 lo)] K st:=by
 have:=RH hT hd hf h2 hr hl hk;rw[qG] at this;exact this
theorem XN{n:Nd}{r:Bool}(hr:qg n=r){K:SV→St→Prop}{st:St}(hk:K (.sc (.bool r)) st):ACalls prog 41 [.agg [.sc (.int .i64 n.kind),.sc (.string (ba n.text)),.sc (.int .i64 n.num),.sc (.int .i64 n.pos),.slice .imm 1 (n.names.map qc),.slice .imm 6 (n.kids.map zq)]] K st:=by
 have:=sD hr hk;rw[qG] at this;exact this
theorem cH{d:Nat}(hT:TxC d){l:List Nd}(hd:∀ c∈l,Dep d c)(hf:∀ c∈l,Fit c)(hn:l.length≤100000){r:Tx}(hr:Yr (zo d) [] l.tail=r)(hl:r.length≤140737488355328){K:SV→St→Prop}{st:St}(hk:K (.sc (.string (ba r))) st) :
  ACalls prog 69 [.slice .imm 6 (List.drop 1 (l.map zq))] K st:=by
 have e:List.drop 1 (l.map zq)=l.tail.map zq:=by cases l <;> rfl
 rw[e];exact Cc hT (fun c hc=>hd c (List.mem_of_mem_tail hc)) (fun c hc=>hf c (List.mem_of_mem_tail hc)) (by simp;omega) hr hl hk
theorem q8:(!(([]:Tx)==[]))=false:=rfl
theorem qw(T:Nd→Int→Tx)(n:Nd)(lo:Int)(h:qg n=true)(hk:qX n.kind=[]):qC T n lo=if n.kind=1 then Yh n.num else if n.kind=2 then Ym n.text else if n.kind=3 then [40,32,41]
 else if n.kind=4∨n.kind=5∨n.kind=27 then X2 T lo n.text n.kids
 else if n.kind=24 then [95] else if n.kind=19 then [114,101,116,114,121]
 else if n.kind=6 then qO [[102,117,110],n.text,[45,62],zj T (kid n 0) lo lo]
 else if n.kind=7 then qO [zj T (kid n 0) 1 lo,zj T (kid n 1) 0 lo]
 else if n.kind=8 then qO [Qm T [108,101,116] n lo,[105,110],zj T (kid n 1) lo lo]
 else if n.kind=9 then qO [Qm T [108,101,116,32,114,101,99] n lo,[105,110],zj T (kid n 1) lo lo]
 else if n.kind=10 then qO [[105,102],zj T (kid n 0) lo lo,[116,104,101,110],zj T (kid n 1) lo lo,[101,108,115,101],zj T (kid n 2) lo lo]
 else if n.kind=11 then qO [[109,97,116,99,104],zj T (kid n 0) 7 7,[119,105,116,104]]++Yr T [] n.kids.tail++[32,101,110,100]
 else if n.kind=12 then qO [[116,114,121],zj T (kid n 0) 7 7,[119,105,116,104],n.text,[45,62],zj T (kid n 1) 7 7,[101,110,100]]
 else if n.kind=13 then fV T n lo
 else if n.kind=14 then qO [zj T (kid n 0) 5 lo,[59],zj T (kid n 1) 7 7]
 else [36]:=by
 unfold qC;rw[if_neg (by rw[h];decide),if_neg (by rw[hk];decide)]
theorem aa{d:Nat}(hT:TxC d){n:Nd}(hkd:n.kind=3)(hm:qg n=true)(hd:Dep (d+1) n)(hf:Fit n){lo:Int}{r:Tx}(hr:qC (zo d) n lo=r)(hl:r.length≤140737488355328){K:SV→St→Prop}{st:St}(hk:K (.sc (.string (ba r))) st):ACalls prog 45 [zq n,.sc (.int .i64 lo)] K st:=by
 refine zd [] func45 rfl results45 ntmps45 ?_;have hky:qX n.kind=[]:=by rw[hkd];decide
 rw[qw _ _ _ hm hky] at hr;simp only[hkd,Int.reduceEq,if_true,if_false,or_false,false_or,or_true,true_or] at hr;have D:∀ j:Int,(n.kind==j)=((3:Int)==j):=fun j=>by rw[hkd]
 have hh:=hf.kids.2.1;simp -implicitDefEqProofs (maxSteps:=3000000) only[go_sem,za];refine XN hm ?_;simp -implicitDefEqProofs (maxSteps:=3000000) only[go_sem,za];refine Xg hky ?_;simp -implicitDefEqProofs (maxSteps:=3000000) only[go_sem,za,D,Int.reduceBEq,q8];subst hr;exact zy (zi _ _) hk
theorem fH{d:Nat}(hT:TxC d){n:Nd}(hkd:n.kind=24)(hm:qg n=true)(hd:Dep (d+1) n)(hf:Fit n){lo:Int}{r:Tx}(hr:qC (zo d) n lo=r)(hl:r.length≤140737488355328){K:SV→St→Prop}{st:St}(hk:K (.sc (.string (ba r))) st):ACalls prog 45 [zq n,.sc (.int .i64 lo)] K st:=by
 refine zd [] func45 rfl results45 ntmps45 ?_;have hky:qX n.kind=[]:=by rw[hkd];decide
 rw[qw _ _ _ hm hky] at hr;simp only[hkd,Int.reduceEq,if_true,if_false,or_false,false_or,or_true,true_or] at hr;have D:∀ j:Int,(n.kind==j)=((24:Int)==j):=fun j=>by rw[hkd]
 have hh:=hf.kids.2.1;simp -implicitDefEqProofs (maxSteps:=3000000) only[go_sem,za];refine XN hm ?_;simp -implicitDefEqProofs (maxSteps:=3000000) only[go_sem,za];refine Xg hky ?_;simp -implicitDefEqProofs (maxSteps:=3000000) only[go_sem,za,D,Int.reduceBEq,q8];subst hr;exact zy (zi _ _) hk
theorem bl{d:Nat}(hT:TxC d){n:Nd}(hkd:n.kind=19)(hm:qg n=true)(hd:Dep (d+1) n)(hf:Fit n){lo:Int}{r:Tx}(hr:qC (zo d) n lo=r)(hl:r.length≤140737488355328){K:SV→St→Prop}{st:St}(hk:K (.sc (.string (ba r))) st):ACalls prog 45 [zq n,.sc (.int .i64 lo)] K st:=by
 refine zd [] func45 rfl results45 ntmps45 ?_;have hky:qX n.kind=[]:=by rw[hkd];decide
 rw[qw _ _ _ hm hky] at hr;simp only[hkd,Int.reduceEq,if_true,if_false,or_false,false_or,or_true,true_or] at hr;have D:∀ j:Int,(n.kind==j)=((19:Int)==j):=fun j=>by rw[hkd]
 have hh:=hf.kids.2.1;simp -implicitDefEqProofs (maxSteps:=3000000) only[go_sem,za];refine XN hm ?_;simp -implicitDefEqProofs (maxSteps:=3000000) only[go_sem,za];refine Xg hky ?_;simp -implicitDefEqProofs (maxSteps:=3000000) only[go_sem,za,D,Int.reduceBEq,q8];subst hr;exact zy (zi _ _) hk
theorem al{d:Nat}(hT:TxC d){n:Nd}(hkd:n.kind=4)(hm:qg n=true)(hd:Dep (d+1) n)(hf:Fit n){lo:Int}{r:Tx}(hr:qC (zo d) n lo=r)(hl:r.length≤140737488355328){K:SV→St→Prop}{st:St}(hk:K (.sc (.string (ba r))) st):ACalls prog 45 [zq n,.sc (.int .i64 lo)] K st:=by
 refine zd [] func45 rfl results45 ntmps45 ?_;have hky:qX n.kind=[]:=by rw[hkd];decide
 rw[qw _ _ _ hm hky] at hr;simp only[hkd,Int.reduceEq,if_true,if_false,or_false,false_or,or_true,true_or] at hr;have D:∀ j:Int,(n.kind==j)=((4:Int)==j):=fun j=>by rw[hkd]
 have hh:=hf.kids.2.1;simp -implicitDefEqProofs (maxSteps:=3000000) only[go_sem,za];refine XN hm ?_;simp -implicitDefEqProofs (maxSteps:=3000000) only[go_sem,za];refine Xg hky ?_;simp -implicitDefEqProofs (maxSteps:=3000000) only[go_sem,za,D,Int.reduceBEq,q8];refine jl hT hd.kids hf.kids.1 hh hr hl ?_;simp only[go_sem];exact zy (zi _ _) hk
theorem oK{d:Nat}(hT:TxC d){n:Nd}(hkd:n.kind=5)(hm:qg n=true)(hd:Dep (d+1) n)(hf:Fit n){lo:Int}{r:Tx}(hr:qC (zo d) n lo=r)(hl:r.length≤140737488355328){K:SV→St→Prop}{st:St}(hk:K (.sc (.string (ba r))) st):ACalls prog 45 [zq n,.sc (.int .i64 lo)] K st:=by
 refine zd [] func45 rfl results45 ntmps45 ?_;have hky:qX n.kind=[]:=by rw[hkd];decide
 rw[qw _ _ _ hm hky] at hr;simp only[hkd,Int.reduceEq,if_true,if_false,or_false,false_or,or_true,true_or] at hr;have D:∀ j:Int,(n.kind==j)=((5:Int)==j):=fun j=>by rw[hkd]
 have hh:=hf.kids.2.1;simp -implicitDefEqProofs (maxSteps:=3000000) only[go_sem,za];refine XN hm ?_;simp -implicitDefEqProofs (maxSteps:=3000000) only[go_sem,za];refine Xg hky ?_;simp -implicitDefEqProofs (maxSteps:=3000000) only[go_sem,za,D,Int.reduceBEq,q8];refine jl hT hd.kids hf.kids.1 hh hr hl ?_;simp only[go_sem];exact zy (zi _ _) hk
theorem bG{d:Nat}(hT:TxC d){n:Nd}(hkd:n.kind=27)(hm:qg n=true)(hd:Dep (d+1) n)(hf:Fit n){lo:Int}{r:Tx}(hr:qC (zo d) n lo=r)(hl:r.length≤140737488355328){K:SV→St→Prop}{st:St}(hk:K (.sc (.string (ba r))) st):ACalls prog 45 [zq n,.sc (.int .i64 lo)] K st:=by
 refine zd [] func45 rfl results45 ntmps45 ?_;have hky:qX n.kind=[]:=by rw[hkd];decide
 rw[qw _ _ _ hm hky] at hr;simp only[hkd,Int.reduceEq,if_true,if_false,or_false,false_or,or_true,true_or] at hr;have D:∀ j:Int,(n.kind==j)=((27:Int)==j):=fun j=>by rw[hkd]
 have hh:=hf.kids.2.1;simp -implicitDefEqProofs (maxSteps:=3000000) only[go_sem,za];refine XN hm ?_;simp -implicitDefEqProofs (maxSteps:=3000000) only[go_sem,za];refine Xg hky ?_;simp -implicitDefEqProofs (maxSteps:=3000000) only[go_sem,za,D,Int.reduceBEq,q8];refine jl hT hd.kids hf.kids.1 hh hr hl ?_;simp only[go_sem];exact zy (zi _ _) hk
theorem ap{d:Nat}(hT:TxC d){n:Nd}(hkd:n.kind=6)(hm:qg n=true)(hd:Dep (d+1) n)(hf:Fit n){lo:Int}{r:Tx}(hr:qC (zo d) n lo=r)(hl:r.length≤140737488355328){K:SV→St→Prop}{st:St}(hk:K (.sc (.string (ba r))) st):ACalls prog 45 [zq n,.sc (.int .i64 lo)] K st:=by
 refine zd [] func45 rfl results45 ntmps45 ?_;have hky:qX n.kind=[]:=by rw[hkd];decide
 rw[qw _ _ _ hm hky] at hr;simp only[hkd,Int.reduceEq,if_true,if_false,or_false,false_or,or_true,true_or] at hr;have D:∀ j:Int,(n.kind==j)=((6:Int)==j):=fun j=>by rw[hkd]
 have hh:=hf.kids.2.1;have hm2:=hm;unfold qg at hm2;simp only[hkd,Int.reduceEq,if_true,if_false,or_false,false_or,or_true,true_or,decide_eq_true_eq] at hm2;have h0:0<n.kids.length:=by omega
 have g0:=qH h0;have hl1:=hl;rw[←hr,ZU] at hl1;simp -implicitDefEqProofs (maxSteps:=3000000) only[go_sem,za];refine XN hm ?_;simp -implicitDefEqProofs (maxSteps:=3000000) only[go_sem,za];refine Xg hky ?_;simp -implicitDefEqProofs (maxSteps:=3000000) only[go_sem,za,D,Int.reduceBEq,q8];refine zC [] mixed rfl ?_;try simp only[go_sem,za,xlM,Int.reduceToNat,g0]
 refine⟨by omega,?_⟩;rw[zt];refine⟨.sc (.string (ba (zj (zo d) (kid n 0) lo lo))),?_,?_⟩
 ·simp only[go_sem];refine Zl hT (qf hd h0) (qe hf h0) rfl (by omega) ?_;exact zJ
 try simp only[go_sem,za,xlM,Int.reduceToNat,g0]
 rw[zt];refine⟨.slice .full 1 ([[102,117,110],n.text,[45,62],zj (zo d) (kid n 0) lo lo].map qc),?_,?_⟩
 ·simp only[go_sem];exact⟨⟨[],by simp⟩,Z1 _ .full (.inr rfl) _ [[102,117,110],n.text,[45,62],zj (zo d) (kid n 0) lo lo],.inl rfl⟩
 try simp only[go_sem,za,xlM,Int.reduceToNat]
 rw[zt];refine⟨.sc (.string (ba (r))),?_,?_⟩
 ·simp only[go_sem];refine QZ (l:=[[102,117,110],n.text,[45,62],zj (zo d) (kid n 0) lo lo]) (by simp) (by simp) hr hl ?_;exact zJ
 try simp only[go_sem,za,xlM,Int.reduceToNat]
 exact zy (zi _ _) hk
theorem aM{d:Nat}(hT:TxC d){n:Nd}(hkd:n.kind=7)(hm:qg n=true)(hd:Dep (d+1) n)(hf:Fit n){lo:Int}{r:Tx}(hr:qC (zo d) n lo=r)(hl:r.length≤140737488355328){K:SV→St→Prop}{st:St}(hk:K (.sc (.string (ba r))) st):ACalls prog 45 [zq n,.sc (.int .i64 lo)] K st:=by
 refine zd [] func45 rfl results45 ntmps45 ?_;have hky:qX n.kind=[]:=by rw[hkd];decide
 rw[qw _ _ _ hm hky] at hr;simp only[hkd,Int.reduceEq,if_true,if_false,or_false,false_or,or_true,true_or] at hr;have D:∀ j:Int,(n.kind==j)=((7:Int)==j):=fun j=>by rw[hkd]
 have hh:=hf.kids.2.1;have hm2:=hm;unfold qg at hm2;simp only[hkd,Int.reduceEq,if_true,if_false,or_false,false_or,or_true,true_or,decide_eq_true_eq] at hm2;have h0:0<n.kids.length:=by omega
 have g0:=qH h0;have h1:1<n.kids.length:=by omega
 have g1:=qH h1;have hl1:=hl;rw[←hr,Zf] at hl1;simp -implicitDefEqProofs (maxSteps:=3000000) only[go_sem,za];refine XN hm ?_;simp -implicitDefEqProofs (maxSteps:=3000000) only[go_sem,za];refine Xg hky ?_;simp -implicitDefEqProofs (maxSteps:=3000000) only[go_sem,za,D,Int.reduceBEq,q8];refine zC [] mixed rfl ?_;try simp only[go_sem,za,xlM,Int.reduceToNat,g0,g1]
 refine⟨by omega,?_⟩;rw[zt];refine⟨.sc (.string (ba (zj (zo d) (kid n 0) 1 lo))),?_,?_⟩
 ·simp only[go_sem];refine Zl hT (qf hd h0) (qe hf h0) rfl (by omega) ?_;exact zJ
 try simp only[go_sem,za,xlM,Int.reduceToNat,g0,g1]
 refine⟨by omega,?_⟩;rw[zt];refine⟨.sc (.string (ba (zj (zo d) (kid n 1) 0 lo))),?_,?_⟩
 ·simp only[go_sem];refine Zl hT (qf hd h1) (qe hf h1) rfl (by omega) ?_;exact zJ
 try simp only[go_sem,za,xlM,Int.reduceToNat,g0,g1]
 rw[zt];refine⟨.slice .full 1 ([zj (zo d) (kid n 0) 1 lo,zj (zo d) (kid n 1) 0 lo].map qc),?_,?_⟩
 ·simp only[go_sem];exact⟨⟨[],by simp⟩,Z1 _ .full (.inr rfl) _ [zj (zo d) (kid n 0) 1 lo,zj (zo d) (kid n 1) 0 lo],.inl rfl⟩
 try simp only[go_sem,za,xlM,Int.reduceToNat]
 rw[zt];refine⟨.sc (.string (ba (r))),?_,?_⟩
 ·simp only[go_sem];refine QZ (l:=[zj (zo d) (kid n 0) 1 lo,zj (zo d) (kid n 1) 0 lo]) (by simp) (by simp) hr hl ?_;exact zJ
 try simp only[go_sem,za,xlM,Int.reduceToNat]
 exact zy (zi _ _) hk
theorem oP{d:Nat}(hT:TxC d){n:Nd}(hkd:n.kind=8)(hm:qg n=true)(hd:Dep (d+1) n)(hf:Fit n){lo:Int}{r:Tx}(hr:qC (zo d) n lo=r)(hl:r.length≤140737488355328){K:SV→St→Prop}{st:St}(hk:K (.sc (.string (ba r))) st):ACalls prog 45 [zq n,.sc (.int .i64 lo)] K st:=by
 refine zd [] func45 rfl results45 ntmps45 ?_;have hky:qX n.kind=[]:=by rw[hkd];decide
 rw[qw _ _ _ hm hky] at hr;simp only[hkd,Int.reduceEq,if_true,if_false,or_false,false_or,or_true,true_or] at hr;have D:∀ j:Int,(n.kind==j)=((8:Int)==j):=fun j=>by rw[hkd]
 have hh:=hf.kids.2.1;have hm2:=hm;unfold qg at hm2;simp only[hkd,Int.reduceEq,if_true,if_false,or_false,false_or,or_true,true_or,decide_eq_true_eq] at hm2;have h0:0<n.kids.length:=by omega
 have g0:=qH h0;have h1:1<n.kids.length:=by omega
 have g1:=qH h1;have hl1:=hl;rw[←hr,Zc] at hl1;simp -implicitDefEqProofs (maxSteps:=3000000) only[go_sem,za];refine XN hm ?_;simp -implicitDefEqProofs (maxSteps:=3000000) only[go_sem,za];refine Xg hky ?_;simp -implicitDefEqProofs (maxSteps:=3000000) only[go_sem,za,D,Int.reduceBEq,q8];refine zC [] mixed rfl ?_;try simp only[go_sem,za,xlM,Int.reduceToNat,g0,g1]
 rw[zt];refine⟨.sc (.string (ba (Qm (zo d) [108,101,116] n lo))),?_,?_⟩
 ·simp only[go_sem];refine gJ hT hd hf h0 rfl rfl (by omega) ?_;exact zJ
 try simp only[go_sem,za,xlM,Int.reduceToNat,g0,g1]
 refine⟨by omega,?_⟩;rw[zt];refine⟨.sc (.string (ba (zj (zo d) (kid n 1) lo lo))),?_,?_⟩
 ·simp only[go_sem];refine Zl hT (qf hd h1) (qe hf h1) rfl (by omega) ?_;exact zJ
 try simp only[go_sem,za,xlM,Int.reduceToNat,g0,g1]
 rw[zt];refine⟨.slice .full 1 ([Qm (zo d) [108,101,116] n lo,[105,110],zj (zo d) (kid n 1) lo lo].map qc),?_,?_⟩
 ·simp only[go_sem];exact⟨⟨[],by simp⟩,Z1 _ .full (.inr rfl) _ [Qm (zo d) [108,101,116] n lo,[105,110],zj (zo d) (kid n 1) lo lo],.inl rfl⟩
 try simp only[go_sem,za,xlM,Int.reduceToNat]
 rw[zt];refine⟨.sc (.string (ba (r))),?_,?_⟩
 ·simp only[go_sem];refine QZ (l:=[Qm (zo d) [108,101,116] n lo,[105,110],zj (zo d) (kid n 1) lo lo]) (by simp) (by simp) hr hl ?_;exact zJ
 try simp only[go_sem,za,xlM,Int.reduceToNat]
 exact zy (zi _ _) hk
theorem eD{d:Nat}(hT:TxC d){n:Nd}(hkd:n.kind=9)(hm:qg n=true)(hd:Dep (d+1) n)(hf:Fit n){lo:Int}{r:Tx}(hr:qC (zo d) n lo=r)(hl:r.length≤140737488355328){K:SV→St→Prop}{st:St}(hk:K (.sc (.string (ba r))) st):ACalls prog 45 [zq n,.sc (.int .i64 lo)] K st:=by
 refine zd [] func45 rfl results45 ntmps45 ?_;have hky:qX n.kind=[]:=by rw[hkd];decide
 rw[qw _ _ _ hm hky] at hr;simp only[hkd,Int.reduceEq,if_true,if_false,or_false,false_or,or_true,true_or] at hr;have D:∀ j:Int,(n.kind==j)=((9:Int)==j):=fun j=>by rw[hkd]
 have hh:=hf.kids.2.1;have hm2:=hm;unfold qg at hm2;simp only[hkd,Int.reduceEq,if_true,if_false,or_false,false_or,or_true,true_or,decide_eq_true_eq] at hm2;have h0:0<n.kids.length:=by omega
 have g0:=qH h0;have h1:1<n.kids.length:=by omega
 have g1:=qH h1;have hl1:=hl;rw[←hr,Zc] at hl1;simp -implicitDefEqProofs (maxSteps:=3000000) only[go_sem,za];refine XN hm ?_;simp -implicitDefEqProofs (maxSteps:=3000000) only[go_sem,za];refine Xg hky ?_;simp -implicitDefEqProofs (maxSteps:=3000000) only[go_sem,za,D,Int.reduceBEq,q8];refine zC [] mixed rfl ?_;try simp only[go_sem,za,xlM,Int.reduceToNat,g0,g1]
 rw[zt];refine⟨.sc (.string (ba (Qm (zo d) [108,101,116,32,114,101,99] n lo))),?_,?_⟩
 ·simp only[go_sem];refine gJ hT hd hf h0 rfl rfl (by omega) ?_;exact zJ
 try simp only[go_sem,za,xlM,Int.reduceToNat,g0,g1]
 refine⟨by omega,?_⟩;rw[zt];refine⟨.sc (.string (ba (zj (zo d) (kid n 1) lo lo))),?_,?_⟩
 ·simp only[go_sem];refine Zl hT (qf hd h1) (qe hf h1) rfl (by omega) ?_;exact zJ
 try simp only[go_sem,za,xlM,Int.reduceToNat,g0,g1]
 rw[zt];refine⟨.slice .full 1 ([Qm (zo d) [108,101,116,32,114,101,99] n lo,[105,110],zj (zo d) (kid n 1) lo lo].map qc),?_,?_⟩
 ·simp only[go_sem];exact⟨⟨[],by simp⟩,Z1 _ .full (.inr rfl) _ [Qm (zo d) [108,101,116,32,114,101,99] n lo,[105,110],zj (zo d) (kid n 1) lo lo],.inl rfl⟩
 try simp only[go_sem,za,xlM,Int.reduceToNat]
 rw[zt];refine⟨.sc (.string (ba (r))),?_,?_⟩
 ·simp only[go_sem];refine QZ (l:=[Qm (zo d) [108,101,116,32,114,101,99] n lo,[105,110],zj (zo d) (kid n 1) lo lo]) (by simp) (by simp) hr hl ?_;exact zJ
 try simp only[go_sem,za,xlM,Int.reduceToNat]
 exact zy (zi _ _) hk
theorem dW{d:Nat}(hT:TxC d){n:Nd}(hkd:n.kind=10)(hm:qg n=true)(hd:Dep (d+1) n)(hf:Fit n){lo:Int}{r:Tx}(hr:qC (zo d) n lo=r)(hl:r.length≤140737488355328){K:SV→St→Prop}{st:St}(hk:K (.sc (.string (ba r))) st):ACalls prog 45 [zq n,.sc (.int .i64 lo)] K st:=by
 refine zd [] func45 rfl results45 ntmps45 ?_;have hky:qX n.kind=[]:=by rw[hkd];decide
 rw[qw _ _ _ hm hky] at hr;simp only[hkd,Int.reduceEq,if_true,if_false,or_false,false_or,or_true,true_or] at hr;have D:∀ j:Int,(n.kind==j)=((10:Int)==j):=fun j=>by rw[hkd]
 have hh:=hf.kids.2.1;have hm2:=hm;unfold qg at hm2;simp only[hkd,Int.reduceEq,if_true,if_false,or_false,false_or,or_true,true_or,decide_eq_true_eq] at hm2;have h0:0<n.kids.length:=by omega
 have g0:=qH h0;have h1:1<n.kids.length:=by omega
 have g1:=qH h1;have h2:2<n.kids.length:=by omega
 have g2:=qH h2;have hl1:=hl;rw[←hr,G7] at hl1;simp -implicitDefEqProofs (maxSteps:=3000000) only[go_sem,za];refine XN hm ?_;simp -implicitDefEqProofs (maxSteps:=3000000) only[go_sem,za];refine Xg hky ?_;simp -implicitDefEqProofs (maxSteps:=3000000) only[go_sem,za,D,Int.reduceBEq,q8];refine zC [] mixed rfl ?_;try simp only[go_sem,za,xlM,Int.reduceToNat,g0,g1,g2]
 refine⟨by omega,?_⟩;rw[zt];refine⟨.sc (.string (ba (zj (zo d) (kid n 0) lo lo))),?_,?_⟩
 ·simp only[go_sem];refine Zl hT (qf hd h0) (qe hf h0) rfl (by omega) ?_;exact zJ
 try simp only[go_sem,za,xlM,Int.reduceToNat,g0,g1,g2]
 refine⟨by omega,?_⟩;rw[zt];refine⟨.sc (.string (ba (zj (zo d) (kid n 1) lo lo))),?_,?_⟩
 ·simp only[go_sem];refine Zl hT (qf hd h1) (qe hf h1) rfl (by omega) ?_;exact zJ
 try simp only[go_sem,za,xlM,Int.reduceToNat,g0,g1,g2]
 refine⟨by omega,?_⟩;rw[zt];refine⟨.sc (.string (ba (zj (zo d) (kid n 2) lo lo))),?_,?_⟩
 ·simp only[go_sem];refine Zl hT (qf hd h2) (qe hf h2) rfl (by omega) ?_;exact zJ
 try simp only[go_sem,za,xlM,Int.reduceToNat,g0,g1,g2]
 rw[zt];refine⟨.slice .full 1 ([[105,102],zj (zo d) (kid n 0) lo lo,[116,104,101,110],zj (zo d) (kid n 1) lo lo,[101,108,115,101],zj (zo d) (kid n 2) lo lo].map qc),?_,?_⟩
 ·simp only[go_sem];exact⟨⟨[],by simp⟩,Z1 _ .full (.inr rfl) _ [[105,102],zj (zo d) (kid n 0) lo lo,[116,104,101,110],zj (zo d) (kid n 1) lo lo,[101,108,115,101],zj (zo d) (kid n 2) lo lo],.inl rfl⟩
 try simp only[go_sem,za,xlM,Int.reduceToNat]
 rw[zt];refine⟨.sc (.string (ba (r))),?_,?_⟩
 ·simp only[go_sem];refine QZ (l:=[[105,102],zj (zo d) (kid n 0) lo lo,[116,104,101,110],zj (zo d) (kid n 1) lo lo,[101,108,115,101],zj (zo d) (kid n 2) lo lo]) (by simp) (by simp) hr hl ?_;exact zJ
 try simp only[go_sem,za,xlM,Int.reduceToNat]
 exact zy (zi _ _) hk
theorem b9{d:Nat}(hT:TxC d){n:Nd}(hkd:n.kind=12)(hm:qg n=true)(hd:Dep (d+1) n)(hf:Fit n){lo:Int}{r:Tx}(hr:qC (zo d) n lo=r)(hl:r.length≤140737488355328){K:SV→St→Prop}{st:St}(hk:K (.sc (.string (ba r))) st):ACalls prog 45 [zq n,.sc (.int .i64 lo)] K st:=by
 refine zd [] func45 rfl results45 ntmps45 ?_;have hky:qX n.kind=[]:=by rw[hkd];decide
 rw[qw _ _ _ hm hky] at hr;simp only[hkd,Int.reduceEq,if_true,if_false,or_false,false_or,or_true,true_or] at hr;have D:∀ j:Int,(n.kind==j)=((12:Int)==j):=fun j=>by rw[hkd]
 have hh:=hf.kids.2.1;have hm2:=hm;unfold qg at hm2;simp only[hkd,Int.reduceEq,if_true,if_false,or_false,false_or,or_true,true_or,decide_eq_true_eq] at hm2;have h0:0<n.kids.length:=by omega
 have g0:=qH h0;have h1:1<n.kids.length:=by omega
 have g1:=qH h1;have hl1:=hl;rw[←hr,Gv] at hl1;simp -implicitDefEqProofs (maxSteps:=3000000) only[go_sem,za];refine XN hm ?_;simp -implicitDefEqProofs (maxSteps:=3000000) only[go_sem,za];refine Xg hky ?_;simp -implicitDefEqProofs (maxSteps:=3000000) only[go_sem,za,D,Int.reduceBEq,q8];refine zC [] mixed rfl ?_;try simp only[go_sem,za,xlM,Int.reduceToNat,g0,g1]
 refine⟨by omega,?_⟩;rw[zt];refine⟨.sc (.string (ba (zj (zo d) (kid n 0) 7 7))),?_,?_⟩
 ·simp only[go_sem];refine Zl hT (qf hd h0) (qe hf h0) rfl (by omega) ?_;exact zJ
 try simp only[go_sem,za,xlM,Int.reduceToNat,g0,g1]
 refine⟨by omega,?_⟩;rw[zt];refine⟨.sc (.string (ba (zj (zo d) (kid n 1) 7 7))),?_,?_⟩
 ·simp only[go_sem];refine Zl hT (qf hd h1) (qe hf h1) rfl (by omega) ?_;exact zJ
 try simp only[go_sem,za,xlM,Int.reduceToNat,g0,g1]
 rw[zt];refine⟨.slice .full 1 ([[116,114,121],zj (zo d) (kid n 0) 7 7,[119,105,116,104],n.text,[45,62],zj (zo d) (kid n 1) 7 7,[101,110,100]].map qc),?_,?_⟩
 ·simp only[go_sem];exact⟨⟨[],by simp⟩,Z1 _ .full (.inr rfl) _ [[116,114,121],zj (zo d) (kid n 0) 7 7,[119,105,116,104],n.text,[45,62],zj (zo d) (kid n 1) 7 7,[101,110,100]],.inl rfl⟩
 try simp only[go_sem,za,xlM,Int.reduceToNat]
 rw[zt];refine⟨.sc (.string (ba (r))),?_,?_⟩
 ·simp only[go_sem];refine QZ (l:=[[116,114,121],zj (zo d) (kid n 0) 7 7,[119,105,116,104],n.text,[45,62],zj (zo d) (kid n 1) 7 7,[101,110,100]]) (by simp) (by simp) hr hl ?_;exact zJ
 try simp only[go_sem,za,xlM,Int.reduceToNat]
 exact zy (zi _ _) hk
theorem bE{d:Nat}(hT:TxC d){n:Nd}(hkd:n.kind=13)(hm:qg n=true)(hd:Dep (d+1) n)(hf:Fit n){lo:Int}{r:Tx}(hr:qC (zo d) n lo=r)(hl:r.length≤140737488355328){K:SV→St→Prop}{st:St}(hk:K (.sc (.string (ba r))) st):ACalls prog 45 [zq n,.sc (.int .i64 lo)] K st:=by
 refine zd [] func45 rfl results45 ntmps45 ?_;have hky:qX n.kind=[]:=by rw[hkd];decide
 rw[qw _ _ _ hm hky] at hr;simp only[hkd,Int.reduceEq,if_true,if_false,or_false,false_or,or_true,true_or] at hr;have D:∀ j:Int,(n.kind==j)=((13:Int)==j):=fun j=>by rw[hkd]
 have hh:=hf.kids.2.1;have hm2:=hm;unfold qg at hm2;simp only[hkd,Int.reduceEq,if_true,if_false,or_false,false_or,or_true,true_or,decide_eq_true_eq] at hm2;have h0:0<n.kids.length:=by omega
 have h1:1<n.kids.length:=by omega
 simp -implicitDefEqProofs (maxSteps:=3000000) only[go_sem,za];refine XN hm ?_;simp -implicitDefEqProofs (maxSteps:=3000000) only[go_sem,za];refine Xg hky ?_;simp -implicitDefEqProofs (maxSteps:=3000000) only[go_sem,za,D,Int.reduceBEq,q8];refine R0 hT hd hf h1 hr hl ?_;simp only[go_sem];exact zy (zi _ _) hk
theorem tT{d:Nat}(hT:TxC d){n:Nd}(hkd:n.kind=14)(hm:qg n=true)(hd:Dep (d+1) n)(hf:Fit n){lo:Int}{r:Tx}(hr:qC (zo d) n lo=r)(hl:r.length≤140737488355328){K:SV→St→Prop}{st:St}(hk:K (.sc (.string (ba r))) st):ACalls prog 45 [zq n,.sc (.int .i64 lo)] K st:=by
 refine zd [] func45 rfl results45 ntmps45 ?_;have hky:qX n.kind=[]:=by rw[hkd];decide
 rw[qw _ _ _ hm hky] at hr;simp only[hkd,Int.reduceEq,if_true,if_false,or_false,false_or,or_true,true_or] at hr;have D:∀ j:Int,(n.kind==j)=((14:Int)==j):=fun j=>by rw[hkd]
 have hh:=hf.kids.2.1;have hm2:=hm;unfold qg at hm2;simp only[hkd,Int.reduceEq,if_true,if_false,or_false,false_or,or_true,true_or,decide_eq_true_eq] at hm2;have h0:0<n.kids.length:=by omega
 have g0:=qH h0;have h1:1<n.kids.length:=by omega
 have g1:=qH h1;have hl1:=hl;rw[←hr,Zc] at hl1;simp -implicitDefEqProofs (maxSteps:=3000000) only[go_sem,za];refine XN hm ?_;simp -implicitDefEqProofs (maxSteps:=3000000) only[go_sem,za];refine Xg hky ?_;simp -implicitDefEqProofs (maxSteps:=3000000) only[go_sem,za,D,Int.reduceBEq,q8];refine zC [] mixed rfl ?_;try simp only[go_sem,za,xlM,Int.reduceToNat,g0,g1]
 refine⟨by omega,?_⟩;rw[zt];refine⟨.sc (.string (ba (zj (zo d) (kid n 0) 5 lo))),?_,?_⟩
 ·simp only[go_sem];refine Zl hT (qf hd h0) (qe hf h0) rfl (by omega) ?_;exact zJ
 try simp only[go_sem,za,xlM,Int.reduceToNat,g0,g1]
 refine⟨by omega,?_⟩;rw[zt];refine⟨.sc (.string (ba (zj (zo d) (kid n 1) 7 7))),?_,?_⟩
 ·simp only[go_sem];refine Zl hT (qf hd h1) (qe hf h1) rfl (by omega) ?_;exact zJ
 try simp only[go_sem,za,xlM,Int.reduceToNat,g0,g1]
 rw[zt];refine⟨.slice .full 1 ([zj (zo d) (kid n 0) 5 lo,[59],zj (zo d) (kid n 1) 7 7].map qc),?_,?_⟩
 ·simp only[go_sem];exact⟨⟨[],by simp⟩,Z1 _ .full (.inr rfl) _ [zj (zo d) (kid n 0) 5 lo,[59],zj (zo d) (kid n 1) 7 7],.inl rfl⟩
 try simp only[go_sem,za,xlM,Int.reduceToNat]
 rw[zt];refine⟨.sc (.string (ba (r))),?_,?_⟩
 ·simp only[go_sem];refine QZ (l:=[zj (zo d) (kid n 0) 5 lo,[59],zj (zo d) (kid n 1) 7 7]) (by simp) (by simp) hr hl ?_;exact zJ
 try simp only[go_sem,za,xlM,Int.reduceToNat]
 exact zy (zi _ _) hk
theorem tA{d:Nat}(hT:TxC d){n:Nd}(hkd:n.kind=11)(hm:qg n=true)(hd:Dep (d+1) n)(hf:Fit n){lo:Int}{r:Tx}(hr:qC (zo d) n lo=r)(hl:r.length≤140737488355328){K:SV→St→Prop}{st:St}(hk:K (.sc (.string (ba r))) st):ACalls prog 45 [zq n,.sc (.int .i64 lo)] K st:=by
 refine zd [] func45 rfl results45 ntmps45 ?_;have hky:qX n.kind=[]:=by rw[hkd];decide
 rw[qw _ _ _ hm hky] at hr;simp only[hkd,Int.reduceEq,if_true,if_false,or_false,false_or,or_true,true_or] at hr;have D:∀ j:Int,(n.kind==j)=((11:Int)==j):=fun j=>by rw[hkd]
 have hh:=hf.kids.2.1;have hm2:=hm;unfold qg at hm2;simp only[hkd,Int.reduceEq,if_true,if_false,or_false,false_or,or_true,true_or,decide_eq_true_eq] at hm2;have h0:0<n.kids.length:=by omega
 have g0:=qH h0;have hl1:=hl;rw[←hr,xlA,xlA,Zc] at hl1;have hl2:(qO [[109,97,116,99,104],zj (zo d) (kid n 0) 7 7,[119,105,116,104]]).length≤140737488355328:=by rw[Zc];omega
 simp -implicitDefEqProofs (maxSteps:=3000000) only[go_sem,za];refine XN hm ?_;simp -implicitDefEqProofs (maxSteps:=3000000) only[go_sem,za];refine Xg hky ?_;simp -implicitDefEqProofs (maxSteps:=3000000) only[go_sem,za,D,Int.reduceBEq,q8];refine zC [] mixed rfl ?_;try simp only[go_sem,za,xlM,Int.reduceToNat,g0]
 refine⟨by omega,?_⟩;rw[zt];refine⟨.sc (.string (ba (zj (zo d) (kid n 0) 7 7))),?_,?_⟩
 ·simp only[go_sem];refine Zl hT (qf hd h0) (qe hf h0) rfl (by omega) ?_;exact zJ
 try simp only[go_sem,za,xlM,Int.reduceToNat,g0]
 rw[zt];refine⟨.slice .full 1 ([[109,97,116,99,104],zj (zo d) (kid n 0) 7 7,[119,105,116,104]].map qc),?_,?_⟩
 ·simp only[go_sem];exact⟨⟨[],by simp⟩,Z1 _ .full (.inr rfl) _ [[109,97,116,99,104],zj (zo d) (kid n 0) 7 7,[119,105,116,104]],.inl rfl⟩
 try simp only[go_sem,za,xlM,Int.reduceToNat]
 rw[zt];refine⟨.sc (.string (ba (qO [[109,97,116,99,104],zj (zo d) (kid n 0) 7 7,[119,105,116,104]]))),?_,?_⟩
 ·simp only[go_sem];refine QZ (l:=[[109,97,116,99,104],zj (zo d) (kid n 0) 7 7,[119,105,116,104]]) (by simp) (by simp) rfl hl2 ?_;exact zJ
 try simp only[go_sem,za,xlM,Int.reduceToNat]
 refine⟨by omega,?_⟩;rw[zt];refine⟨.sc (.string (ba (Yr (zo d) [] n.kids.tail))),?_,?_⟩
 ·simp only[go_sem];refine cH hT hd.kids hf.kids.1 hh rfl (by omega) ?_;exact zJ
 try simp only[go_sem,za,xlM,Int.reduceToNat]
 have e:ba (qO [[109,97,116,99,104],zj (zo d) (kid n 0) 7 7,[119,105,116,104]])++ba (Yr (zo d) [] n.kids.tail)++(⟨#[32,101,110,100]⟩:ByteArray)=ba r:=by
  rw[show (⟨#[32,101,110,100]⟩:ByteArray)=ba [32,101,110,100] from rfl,zP,zP,hr]
 rw[e];refine⟨?_,?_,zy (zi _ _) hk⟩
 ·simp only[xsA];omega
 ·simp only[xsA,xlC,xlN] at hl1 ⊢;omega
theorem aZ{d:Nat}(hT:TxC d){n:Nd}(hkd:n.kind=1)(hm:qg n=true)(hd:Dep (d+1) n)(hf:Fit n){lo:Int}{r:Tx}(hr:qC (zo d) n lo=r)(hl:r.length≤140737488355328){K:SV→St→Prop}{st:St}(hk:K (.sc (.string (ba r))) st):ACalls prog 45 [zq n,.sc (.int .i64 lo)] K st:=by
 refine zd [] func45 rfl results45 ntmps45 ?_;have hky:qX n.kind=[]:=by rw[hkd];decide
 rw[qw _ _ _ hm hky] at hr;simp only[hkd,Int.reduceEq,if_true,if_false,or_false,false_or,or_true,true_or] at hr;have D:∀ j:Int,(n.kind==j)=((1:Int)==j):=fun j=>by rw[hkd]
 have hh:=hf.kids.2.1;simp -implicitDefEqProofs (maxSteps:=3000000) only[go_sem,za];refine XN hm ?_;simp -implicitDefEqProofs (maxSteps:=3000000) only[go_sem,za];refine Xg hky ?_;simp -implicitDefEqProofs (maxSteps:=3000000) only[go_sem,za,D,Int.reduceBEq,q8];refine iH ?_;simp only[go_sem];subst hr;exact zy (zi _ _) hk
theorem lA{d:Nat}(hT:TxC d){n:Nd}(hkd:n.kind=2)(hm:qg n=true)(hd:Dep (d+1) n)(hf:Fit n){lo:Int}{r:Tx}(hr:qC (zo d) n lo=r)(hl:r.length≤140737488355328){K:SV→St→Prop}{st:St}(hk:K (.sc (.string (ba r))) st):ACalls prog 45 [zq n,.sc (.int .i64 lo)] K st:=by
 refine zd [] func45 rfl results45 ntmps45 ?_;have hky:qX n.kind=[]:=by rw[hkd];decide
 rw[qw _ _ _ hm hky] at hr;simp only[hkd,Int.reduceEq,if_true,if_false,or_false,false_or,or_true,true_or] at hr;have D:∀ j:Int,(n.kind==j)=((2:Int)==j):=fun j=>by rw[hkd]
 have hh:=hf.kids.2.1;simp -implicitDefEqProofs (maxSteps:=3000000) only[go_sem,za];refine XN hm ?_;simp -implicitDefEqProofs (maxSteps:=3000000) only[go_sem,za];refine Xg hky ?_;simp -implicitDefEqProofs (maxSteps:=3000000) only[go_sem,za,D,Int.reduceBEq,q8];refine ly hf.kids.2.2.2 ?_;simp only[go_sem];subst hr;exact zy (zi _ _) hk
theorem rg{d:Nat}(hT:TxC d){n:Nd}(hm:qg n=false)(hd:Dep (d+1) n)(hf:Fit n){lo:Int}{r:Tx}(hr:qC (zo d) n lo=r)(hl:r.length≤140737488355328){K:SV→St→Prop}{st:St}(hk:K (.sc (.string (ba r))) st):ACalls prog 45 [zq n,.sc (.int .i64 lo)] K st:=by
 refine zd [] func45 rfl results45 ntmps45 ?_;unfold qC at hr;rw[if_pos hm] at hr;subst hr;simp -implicitDefEqProofs (maxSteps:=3000000) only[go_sem,za];refine XN hm ?_;simp -implicitDefEqProofs (maxSteps:=3000000) only[go_sem,za];exact zy (zi _ _) hk
theorem lK{d:Nat}(hT:TxC d){n:Nd}(hm:qg n=true)(hky:qX n.kind≠[])(hd:Dep (d+1) n)(hf:Fit n){lo:Int}{r:Tx}(hr:qC (zo d) n lo=r)(hl:r.length≤140737488355328){K:SV→St→Prop}{st:St}(hk:K (.sc (.string (ba r))) st):ACalls prog 45 [zq n,.sc (.int .i64 lo)] K st:=by
 refine zd [] func45 rfl results45 ntmps45 ?_;unfold qC at hr;rw[if_neg (by rw[hm];decide),if_pos hky] at hr;have e:(!(qX n.kind==[]))=true:=by simp[hky]
 simp -implicitDefEqProofs (maxSteps:=3000000) only[go_sem,za];refine XN hm ?_;simp -implicitDefEqProofs (maxSteps:=3000000) only[go_sem,za];refine Xg rfl ?_;simp -implicitDefEqProofs (maxSteps:=3000000) only[go_sem,za,e,QH];refine jl hT hd.kids hf.kids.1 hf.kids.2.1 hr hl ?_;simp only[go_sem];exact zy (zi _ _) hk
theorem lr{d:Nat}(hT:TxC d){n:Nd}(hm:qg n=true)(hky:qX n.kind=[])(d1:n.kind≠1)(d2:n.kind≠2)(d3:n.kind≠3)(d4:n.kind≠4)(d5:n.kind≠5)(d27:n.kind≠27)(d24:n.kind≠24)(d19:n.kind≠19)(d6:n.kind≠6)(d7:n.kind≠7)(d8:n.kind≠8)(d9:n.kind≠9)(d10:n.kind≠10)(d11:n.kind≠11)(d12:n.kind≠12)(d13:n.kind≠13)(d14:n.kind≠14)(hd:Dep (d+1) n)(hf:Fit n){lo:Int}{r:Tx}(hr:qC (zo d) n lo=r)(hl:r.length≤140737488355328){K:SV→St→Prop}{st:St}(hk:K (.sc (.string (ba r))) st):ACalls prog 45 [zq n,.sc (.int .i64 lo)] K st:=by
 refine zd [] func45 rfl results45 ntmps45 ?_;rw[qw _ _ _ hm hky] at hr;simp only[d1,d2,d3,d4,d5,d27,d24,d19,d6,d7,d8,d9,d10,d11,d12,d13,d14,if_false,or_self] at hr;subst hr;have e1:(n.kind==1)=false:=by simp[d1]
 have e2:(n.kind==2)=false:=by simp[d2]
 have e3:(n.kind==3)=false:=by simp[d3]
 have e4:(n.kind==4)=false:=by simp[d4]
 have e5:(n.kind==5)=false:=by simp[d5]
 have e27:(n.kind==27)=false:=by simp[d27]
 have e24:(n.kind==24)=false:=by simp[d24]
 have e19:(n.kind==19)=false:=by simp[d19]
 have e6:(n.kind==6)=false:=by simp[d6]
 have e7:(n.kind==7)=false:=by simp[d7]
 have e8:(n.kind==8)=false:=by simp[d8]
 have e9:(n.kind==9)=false:=by simp[d9]
 have e10:(n.kind==10)=false:=by simp[d10]
 have e11:(n.kind==11)=false:=by simp[d11]
 have e12:(n.kind==12)=false:=by simp[d12]
 have e13:(n.kind==13)=false:=by simp[d13]
 have e14:(n.kind==14)=false:=by simp[d14]
 simp -implicitDefEqProofs (maxSteps:=3000000) only[go_sem,za];refine XN hm ?_;simp -implicitDefEqProofs (maxSteps:=3000000) only[go_sem,za];refine Xg hky ?_;simp -implicitDefEqProofs (maxSteps:=3000000) only[go_sem,za,q8,e1,e2,e3,e4,e5,e27,e24,e19,e6,e7,e8,e9,e10,e11,e12,e13,e14];exact zy (zi _ _) hk
theorem eA{d:Nat}(hT:TxC d):TxC (d+1):=by
 intro n lo r hd hf hr hl K st hk;have hr:qC (zo d) n lo=r:=hr;cases hm:qg n with
 | false=>exact rg hT hm hd hf hr hl hk
 | true =>
 by_cases hky:qX n.kind=[]
 rotate_left
 ·exact lK hT hm hky hd hf hr hl hk
 by_cases c1:n.kind=1
 ·exact aZ hT c1 hm hd hf hr hl hk
 by_cases c2:n.kind=2
 ·exact lA hT c2 hm hd hf hr hl hk
 by_cases c3:n.kind=3
 ·exact aa hT c3 hm hd hf hr hl hk
 by_cases c4:n.kind=4
 ·exact al hT c4 hm hd hf hr hl hk
 by_cases c5:n.kind=5
 ·exact oK hT c5 hm hd hf hr hl hk
 by_cases c27:n.kind=27
 ·exact bG hT c27 hm hd hf hr hl hk
 by_cases c24:n.kind=24
 ·exact fH hT c24 hm hd hf hr hl hk
 by_cases c19:n.kind=19
 ·exact bl hT c19 hm hd hf hr hl hk
 by_cases c6:n.kind=6
 ·exact ap hT c6 hm hd hf hr hl hk
 by_cases c7:n.kind=7
 ·exact aM hT c7 hm hd hf hr hl hk
 by_cases c8:n.kind=8
 ·exact oP hT c8 hm hd hf hr hl hk
 by_cases c9:n.kind=9
 ·exact eD hT c9 hm hd hf hr hl hk
 by_cases c10:n.kind=10
 ·exact dW hT c10 hm hd hf hr hl hk
 by_cases c11:n.kind=11
 ·exact tA hT c11 hm hd hf hr hl hk
 by_cases c12:n.kind=12
 ·exact b9 hT c12 hm hd hf hr hl hk
 by_cases c13:n.kind=13
 ·exact bE hT c13 hm hd hf hr hl hk
 by_cases c14:n.kind=14
 ·exact tT hT c14 hm hd hf hr hl hk
 exact lr hT hm hky c1 c2 c3 c4 c5 c27 c24 c19 c6 c7 c8 c9 c10 c11 c12 c13 c14 hd hf hr hl hk
theorem Kn:∀ d,TxC d
 | 0=>fun n lo r hd=>by obtain⟨k,hk⟩:=hd.pos;cases hk
 | d+1=>eA (Kn d)
end Go.Proofs
namespace Go.AL
theorem E7(T:Nd→Tx):∀ (l:List Nd) (w:Tx),w.length≤(XQ T w l).length
 | [],w=>Nat.le_refl _
 | k::r,w=>by
  have h:=E7 T r (if 0<k.kids.length then qO [w,[40],T k,[41]] else qO [w,T k]);have h2:w.length≤(if 0<k.kids.length then qO [w,[40],T k,[41]] else qO [w,T k]).length:=by
   split
   ·rw[ZU];omega
   ·rw[Zf];omega
  exact Nat.le_trans h2 h
theorem HQ(T:Nd→Tx):∀ (l:List Nd) (i:Nat) (w:Tx),w.length≤(Wj T i w l).length
 | [],_,w=>Nat.le_refl _
 | k::r,i,w=>by
  have h:=HQ T r (i+1) (qO [w,if i=0 then [111,102] else [44],T k]);rw[Zc] at h;show _≤(Wj T _ _ r).length;omega
theorem K2(d:Nat):∀ (l:List Nd) (i:Nat) (w:Tx),w.length≤(YQ d i w l).length
 | [],_,w=>Nat.le_refl _
 | k::r,i,w=>by
  have h:=K2 d r (i+1) (qO [if 0<i then qO [w,[124]] else w,K5 d k]);rw[Zf] at h;have h2:w.length≤(if 0<i then qO [w,[124]] else w).length:=by
   split
   ·rw[Zf];omega
   ·omega
  show _≤(YQ d _ _ r).length;omega
end Go.AL
namespace Go.Proofs
open Go Go.AL Tryz
def TyC(d:Nat):Prop:=∀ (n:Nd) (r:Tx),Dep d n→Fit n→qr d n=r→r.length≤140737488355328→∀ (K:SV→St→Prop) (st:St),K (.sc (.string (ba r))) st→ACalls prog 64 [zq n] K st
theorem TyC.agg{d:Nat}(hT:TyC d){n:Nd}{r:Tx}(hd:Dep d n)(hf:Fit n)(hr:qr d n=r)(hl:r.length≤140737488355328){K:SV→St→Prop}{st:St}(hk:K (.sc (.string (ba r))) st) :
  ACalls prog 64 [.agg [.sc (.int .i64 n.kind),.sc (.string (ba n.text)),.sc (.int .i64 n.num),.sc (.int .i64 n.pos),.slice .imm 1 (n.names.map qc),.slice .imm 6 (n.kids.map zq)]] K st:=by
 have:=hT n r hd hf hr hl K st hk;rw[qG] at this;exact this
theorem dp{d:Nat}(hT:TyC d):TyC (d+1):=by
 intro n r hd hf hr hl K st hk;refine zd [] func64 rfl results64 ntmps64 ?_;have hn:=hf.kids.2.1;generalize hL:n.kids=l at *;have hr:XQ (qr d) n.text l=r:=by rw[←hr,←hL];rfl
 have hd:∀ c∈l,Dep d c:=by rw[←hL];exact hd.kids
 have hf:∀ c∈l,Fit c:=by rw[←hL];exact hf.kids.1
 simp only[go_sem,za,xlM,hL];refine zx [] (fun k env s=>∃ (i:Nat) (v:Tx) (ex:St),k+i=l.length∧XQ (qr d) v (l.drop i)=r∧env=[.any,.any,.any,.sc (.string (ba v)),.any,.any,.any,.any,.any,.slice .imm 6 (l.map zq),.sc (.int .i64 l.length),.sc (.int .i64 i),.any,.any,.any,.any,.any,.any,.any,.any,.any,.any,.any,.any,.any,.any,.any,.any,.any,.any,.any]∧s=st++ex) (n:=l.length) ?_ ⟨0,n.text,[],by omega,hr,rfl,by simp⟩ ?_
 ·exact qu
 rintro k env s ⟨i,v,ex,hi,hv,rfl,rfl⟩;by_cases hlt:i<l.length
 ·have c2:decide ((i:Int)<(l.length:Int))=true:=by simp;omega
  have w1:IntKind.i64.wrap ((i:Int)+1)=((i+1:Nat):Int):=by rw[IntWalk.i64_in _ (by omega)];rfl
  have g1:=q7 hlt;rw[List.drop_eq_getElem_cons hlt] at hv;have hv:XQ (qr d) (if 0<l[i].kids.length then qO [v,[40],qr d l[i],[41]] else qO [v,qr d l[i]]) (l.drop (i+1))=r:=hv;have hle:=E7 (qr d) (l.drop (i+1)) (if 0<l[i].kids.length then qO [v,[40],qr d l[i],[41]] else qO [v,qr d l[i]]);rw[hv] at hle;have hd1:=hd _ (List.getElem_mem hlt);have hf1:=hf _ (List.getElem_mem hlt);by_cases c:0<l[i].kids.length
  ·have b1:decide (0<(l[i].kids.length:Int))=true:=by rw[decide_eq_true_eq];omega
   rw[if_pos c] at hv hle;have hle2:=hle;rw[ZU] at hle2;simp only[go_sem,c2,w1,xlM,g1,za,b1];refine⟨by omega,?_⟩;refine hT.agg hd1 hf1 rfl (by omega) ?_;simp only[go_sem,w1];refine QZ (l:=[v,[40],qr d l[i],[41]]) (by simp) (by simp) rfl (by omega) ?_;simp only[go_sem,w1];refine⟨k-1,_,by omega,?_,i+1,_,_,by omega,hv,rfl,rfl⟩;exact qu
  ·have b1:decide (0<(l[i].kids.length:Int))=false:=by rw[decide_eq_false_iff_not];omega
   rw[if_neg c] at hv hle;have hle2:=hle;rw[Zf] at hle2;simp only[go_sem,c2,w1,xlM,g1,za,b1];refine⟨by omega,?_⟩;refine hT.agg hd1 hf1 rfl (by omega) ?_;simp only[go_sem,w1];refine QZ (l:=[v,qr d l[i]]) (by simp) (by simp) rfl (by omega) ?_;simp only[go_sem,w1];refine⟨k-1,_,by omega,?_,i+1,_,_,by omega,hv,rfl,rfl⟩;exact qu
 ·have c2:decide ((i:Int)<(l.length:Int))=false:=by simp;omega
  rw[List.drop_of_length_le (by omega)] at hv;have hv:v=r:=hv;subst hv;simp only[go_sem,c2];exact zF (zi _ _) hk
theorem je:∀ d,TyC d
 | 0=>fun n r hd=>by obtain⟨k,hk⟩:=hd.pos;cases hk
 | d+1=>dp (je d)
theorem MH{d:Nat}{n:Nd}(hd:Dep (d+1) n)(hf:Fit n){r:Tx}(hr:K5 d n=r)(hl:r.length≤140737488355328){K:SV→St→Prop}{st:St}(hk:K (.sc (.string (ba r))) st):ACalls prog 43 [zq n] K st:=by
 refine zd [] func43 rfl results43 ntmps43 ?_;have hn:=hf.kids.2.1;generalize hL:n.kids=l at *;have hr:Wj (qr d) 0 n.text l=r:=by rw[←hr,←hL];rfl
 have hd:∀ c∈l,Dep d c:=by rw[←hL];exact hd.kids
 have hf:∀ c∈l,Fit c:=by rw[←hL];exact hf.kids.1
 simp only[go_sem,za,xlM,hL];refine zx [] (fun k env s=>∃ (i:Nat) (v:Tx) (ex:St),k+i=l.length∧Wj (qr d) i v (l.drop i)=r∧env=[.any,.any,.any,.sc (.string (ba v)),.any,.any,.any,.any,.any,.any,.slice .imm 6 (l.map zq),.sc (.int .i64 l.length),.sc (.int .i64 i),.any,.any,.any,.any,.any,.any,.any,.any,.any,.any,.any,.any,.any,.any]∧s=st++ex) (n:=l.length) ?_ ⟨0,n.text,[],by omega,hr,rfl,by simp⟩ ?_
 ·exact qu
 rintro k env s ⟨i,v,ex,hi,hv,rfl,rfl⟩;by_cases hlt:i<l.length
 ·have c2:decide ((i:Int)<(l.length:Int))=true:=by simp;omega
  have w1:IntKind.i64.wrap ((i:Int)+1)=((i+1:Nat):Int):=by rw[IntWalk.i64_in _ (by omega)];rfl
  have g1:=q7 hlt;rw[List.drop_eq_getElem_cons hlt] at hv;have hv:Wj (qr d) (i+1) (qO [v,if i=0 then [111,102] else [44],qr d l[i]]) (l.drop (i+1))=r:=hv;have hle:=HQ (qr d) (l.drop (i+1)) (i+1) (qO [v,if i=0 then [111,102] else [44],qr d l[i]]);rw[hv] at hle;have hle2:=hle;rw[Zc] at hle2;have hd1:=hd _ (List.getElem_mem hlt);have hf1:=hf _ (List.getElem_mem hlt);by_cases c:i=0
  ·have b1:((i:Int)==0)=true:=by simp[c]
   rw[if_pos c] at hv hle hle2;simp only[go_sem,c2,w1,xlM,g1,za,b1];refine⟨by omega,?_⟩;refine (je d).agg hd1 hf1 rfl (by omega) ?_;simp only[go_sem,w1];refine QZ (l:=[v,[111,102],qr d l[i]]) (by simp) (by simp) rfl (by omega) ?_;simp only[go_sem,w1];refine⟨k-1,_,by omega,?_,i+1,_,_,by omega,hv,rfl,rfl⟩;exact qu
  ·have b1:((i:Int)==0)=false:=by simp[c]
   rw[if_neg c] at hv hle hle2;simp only[go_sem,c2,w1,xlM,g1,za,b1];refine⟨by omega,?_⟩;refine (je d).agg hd1 hf1 rfl (by omega) ?_;simp only[go_sem,w1];refine QZ (l:=[v,[44],qr d l[i]]) (by simp) (by simp) rfl (by omega) ?_;simp only[go_sem,w1];refine⟨k-1,_,by omega,?_,i+1,_,_,by omega,hv,rfl,rfl⟩;exact qu
 ·have c2:decide ((i:Int)<(l.length:Int))=false:=by simp;omega
  rw[List.drop_of_length_le (by omega)] at hv;have hv:v=r:=hv;subst hv;simp only[go_sem,c2];exact zF (zi _ _) hk
theorem sB{m:Go.AL.Mode}{x:List SV}{l:List Tx}(hx:x=l.map qc)(h0:l≠[])(hn:l.length≤1000000){r:Tx}(hr:qO l=r)(hl:r.length≤140737488355328){K:SV→St→Prop}{st:St}(hk:K (.sc (.string (ba r))) st):ACalls prog 26 [.slice m 1 x] K st:=by
 subst hx;exact QZ h0 hn hr hl hk
theorem rF{n:Nat}(h:n≤1000000):AppOk prog 23 23 1 n:=Vm Tryz.aelem23 Tryz.aelem23 Tryz.asize9 Tryz.azero9 rfl Tryz.abytes9 (by omega) h
theorem Nw{d:Nat}{n:Nd}(hd:Dep (d+1) n)(hf:Fit n){r:Tx}(hr:K5 d n=r)(hl:r.length≤140737488355328){K:SV→St→Prop}{st:St}(hk:K (.sc (.string (ba r))) st) :
  ACalls prog 43 [.agg [.sc (.int .i64 n.kind),.sc (.string (ba n.text)),.sc (.int .i64 n.num),.sc (.int .i64 n.pos),.slice .imm 1 (n.names.map qc),.slice .imm 6 (n.kids.map zq)]] K st:=by
 have:=MH hd hf hr hl hk;rw[qG] at this;exact this
theorem eG{d:Nat}{n:Nd}(h25:n.kind=25)(hd:Dep (d+1) n)(hf:Fit n){r:Tx}(hr:Z7 d n=r)(hl:r.length≤140737488355328){K:SV→St→Prop}{st:St}(hk:K (.sc (.string (ba r))) st):ACalls prog 27 [zq n] K st:=by
 refine zd [] func27 rfl results27 ntmps27 ?_;have e28:(n.kind==28)=false:=by simp[h25]
 have e29:(n.kind==29)=false:=by simp[h25]
 have e25:(n.kind != 25)=false:=by simp[h25]
 have hn:=hf.kids.2.1;have hns:=hf.kids.2.2.1;generalize hw:qO (([[116,121,112,101],n.text]++n.names)++[[61]])=w;have hr:YQ d 0 w n.kids=r:=by
  rw[←hr,←hw];unfold Z7;rw[if_neg (by rw[h25];simp),if_neg (by rw[h25];simp),if_neg (by rw[h25];simp)]
 have hle0:=K2 d n.kids 0 w;rw[hr] at hle0;have hmap:(SV.sc (.string ⟨#[116,121,112,101]⟩)::SV.sc (.string (ba n.text))::(n.names.map qc++[SV.sc (.string ⟨#[61]⟩)]))=(([[116,121,112,101],n.text]++n.names)++[[61]]:List Tx).map qc:=by
  simp[qc]
 simp only[go_sem,za,xlM,e28,e29,e25];refine⟨rF (by omega),rF (by omega),?_⟩;refine sB hmap (by simp) (by simp;omega) hw (by omega) ?_;simp only[go_sem,za,xlM];generalize hL:n.kids=l at *;have hd:∀ c∈l,Dep d c:=by rw[←hL];exact hd.kids
 have hf:∀ c∈l,Fit c:=by rw[←hL];exact hf.kids.1
 refine zx [] (fun k env s=>∃ (i:Nat) (v:Tx) (ex:St),k+i=l.length∧YQ d i v (l.drop i)=r∧env=[.any,.any,.any,.sc (.string (ba v)),.any,.any,.any,.any,.any,.any,.any,.any,.any,.any,.any,.any,.any,.any,.any,.any,.any,.any,.any,.any,.any,.any,.any,.any,.any,.any,.any,.any,.any,.any,.any,.any,.any,.any,.any,.any,.slice .imm 6 (l.map zq),.sc (.int .i64 l.length),.sc (.int .i64 i),.any,.any,.any,.any,.any,.any,.any,.any,.any,.any,.any,.any,.any,.any,.any,.any]∧s=st++ex) (n:=l.length) ?_ ⟨0,w,[.tok 1],by omega,hr,rfl,rfl⟩ ?_
 ·exact qu
 rintro k env s ⟨i,v,ex,hi,hv,rfl,rfl⟩;by_cases hlt:i<l.length
 ·have c2:decide ((i:Int)<(l.length:Int))=true:=by simp;omega
  have w1:IntKind.i64.wrap ((i:Int)+1)=((i+1:Nat):Int):=by rw[IntWalk.i64_in _ (by omega)];rfl
  have g1:=q7 hlt;rw[List.drop_eq_getElem_cons hlt] at hv;have hv:YQ d (i+1) (qO [if 0<i then qO [v,[124]] else v,K5 d l[i]]) (l.drop (i+1))=r:=hv;have hle:=K2 d (l.drop (i+1)) (i+1) (qO [if 0<i then qO [v,[124]] else v,K5 d l[i]]);rw[hv] at hle;have hle2:=hle;rw[Zf] at hle2;have hd1:Dep (d+1) l[i]:=(hd _ (List.getElem_mem hlt)).mono (Nat.le_succ d);have hf1:=hf _ (List.getElem_mem hlt);by_cases c:0<i
  ·have b1:decide (0<(i:Int))=true:=by rw[decide_eq_true_eq];omega
   rw[if_pos c] at hv hle hle2;simp only[go_sem,c2,w1,xlM,g1,za,gt_iff_lt,b1];refine⟨by omega,?_⟩;refine QZ (l:=[v,[124]]) (by simp) (by simp) rfl (by omega) ?_;simp only[go_sem,w1];refine Nw hd1 hf1 rfl (by omega) ?_;simp only[go_sem,w1];refine QZ (l:=[qO [v,[124]],K5 d l[i]]) (by simp) (by simp) rfl (by omega) ?_;simp only[go_sem,w1];refine⟨k-1,_,by omega,?_,i+1,_,_,by omega,hv,rfl,rfl⟩;exact qu
  ·have b1:decide (0<(i:Int))=false:=by rw[decide_eq_false_iff_not];omega
   rw[if_neg c] at hv hle hle2;simp only[go_sem,c2,w1,xlM,g1,za,gt_iff_lt,b1];refine⟨by omega,?_⟩;refine Nw hd1 hf1 rfl (by omega) ?_;simp only[go_sem,w1];refine QZ (l:=[v,K5 d l[i]]) (by simp) (by simp) rfl (by omega) ?_;simp only[go_sem,w1];refine⟨k-1,_,by omega,?_,i+1,_,_,by omega,hv,rfl,rfl⟩;exact qu
 ·have c2:decide ((i:Int)<(l.length:Int))=false:=by simp;omega
  rw[List.drop_of_length_le (by omega)] at hv;have hv:v=r:=hv;subst hv;simp only[go_sem,c2];exact zF (zi _ _) hk
theorem o7{d:Nat}{n:Nd}(h25:n.kind≠25)(hd:Dep (d+1) n)(hf:Fit n){r:Tx}(hr:Z7 d n=r)(hl:r.length≤140737488355328){K:SV→St→Prop}{st:St}(hk:K (.sc (.string (ba r))) st):ACalls prog 27 [zq n] K st:=by
 refine zd [] func27 rfl results27 ntmps27 ?_;have e25:(n.kind != 25)=true:=by simp[h25]
 unfold Z7 at hr;by_cases c28:n.kind=28
 ·have e28:(n.kind==28)=true:=by simp[c28]
  have e29:(n.kind==29)=false:=by simp[c28]
  cases hm:qg n with
  | true =>
   rw[if_pos ⟨c28,hm⟩] at hr;have h1:0<n.kids.length:=by
    unfold qg at hm;simp only[c28] at hm;simp at hm;omega
   simp only[go_sem,za,e28];refine XN hm ?_;simp only[go_sem,za,e28];refine gJ (Kn d) hd hf h1 (w:=[108,101,116]) rfl hr hl ?_;simp only[go_sem];exact zy (zi _ _) hk
  | false =>
   rw[if_neg (by rw[hm];simp),if_neg (by rw[c28];simp),if_pos h25] at hr;subst hr;simp only[go_sem,za,e28,e29];refine XN hm ?_;simp only[go_sem,za,e28,e29,e25];exact zy (zi _ _) hk
 have e28:(n.kind==28)=false:=by simp[c28]
 rw[if_neg (fun h=>c28 h.1)] at hr;by_cases c29:n.kind=29
 ·have e29:(n.kind==29)=true:=by simp[c29]
  cases hm:qg n with
  | true =>
   rw[if_pos ⟨c29,hm⟩] at hr;have h1:0<n.kids.length:=by
    unfold qg at hm;simp only[c29] at hm;simp at hm;omega
   simp only[go_sem,za,e28,e29];refine XN hm ?_;simp only[go_sem,za,e28,e29];refine gJ (Kn d) hd hf h1 (w:=[108,101,116,32,114,101,99]) rfl hr hl ?_;simp only[go_sem];exact zy (zi _ _) hk
  | false =>
   rw[if_neg (by rw[hm];simp),if_pos h25] at hr;subst hr;simp only[go_sem,za,e28,e29];refine XN hm ?_;simp only[go_sem,za,e28,e29,e25];exact zy (zi _ _) hk
 have e29:(n.kind==29)=false:=by simp[c29]
 rw[if_neg (fun h=>c29 h.1),if_pos h25] at hr;subst hr;simp only[go_sem,za,e28,e29,e25];exact zy (zi _ _) hk
theorem oG{d:Nat}{n:Nd}(hd:Dep (d+1) n)(hf:Fit n){r:Tx}(hr:Z7 d n=r)(hl:r.length≤140737488355328){K:SV→St→Prop}{st:St}(hk:K (.sc (.string (ba r))) st):ACalls prog 27 [zq n] K st:=by
 by_cases h:n.kind=25
 ·exact eG h hd hf hr hl hk
 ·exact o7 h hd hf hr hl hk
theorem OW{d:Nat}{n:Nd}(hd:Dep (d+1) n)(hf:Fit n){r:Tx}(hr:Z7 d n=r)(hl:r.length≤140737488355328){K:SV→St→Prop}{st:St}(hk:K (.sc (.string (ba r))) st) :
  ACalls prog 27 [.agg [.sc (.int .i64 n.kind),.sc (.string (ba n.text)),.sc (.int .i64 n.num),.sc (.int .i64 n.pos),.slice .imm 1 (n.names.map qc),.slice .imm 6 (n.kids.map zq)]] K st:=by
 have:=oG hd hf hr hl hk;rw[qG] at this;exact this
end Go.Proofs
