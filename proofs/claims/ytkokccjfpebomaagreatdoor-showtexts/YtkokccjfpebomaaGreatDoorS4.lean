/- show.text. -/
import Derived.Test.YtkokccjfpebomaaGreatDoorS3
set_option linter.all false
set_option maxHeartbeats 4000000
set_option maxRecDepth 8000
namespace Go.Proofs
open Go Go.AL Tryz
variable {K:SV→St→Prop}{st:St}
def W6(f d:Nat)(n:Nd)(lo:Int):Prop:=∀ {r:Tx} (hr:QE (zn d) n lo=r) (hl:r.length≤140737488355328) {K:SV→St→Prop} {st:St} (hk:K (.sc (.string (ba r))) st),ACalls prog f [zq n,.sc (.int .i64 lo)] K st
theorem yi{d:Nat}(hT:TxC d){n:Nd}(hd:Dep (d+1) n)(hf:Fit n)(h1:0<n.kids.length){w:Tx}{x:ByteArray}(hx:x=ba w){lo:Int}{r:Tx}(hr:Z' (zn d) w n lo=r)(hl:r.length≤140737488355328)(hk:K (.sc (.string (ba r))) st) :
  ACalls prog 42 [.sc (.string x),.agg [.sc (.int .i64 n.kind),.sc (.string (ba n.text)),.sc (.int .i64 n.num),.sc (.int .i64 n.pos),.slice .imm 1 (n.names.map z8),.slice .imm 6 (n.kids.map zq)],.sc (.int .i64 lo)] K st:=by
 subst hx;have:=az hT hd hf h1 hr hl hk;rw[qR] at this;exact this
theorem Oa{d:Nat}(hT:TxC d){n:Nd}(hd:Dep (d+1) n)(hf:Fit n)(h2:1<n.kids.length){lo:Int}{r:Tx}(hr:bq (zn d) n lo=r)(hl:r.length≤140737488355328)(hk:K (.sc (.string (ba r))) st) :
  ACalls prog 70 [.agg [.sc (.int .i64 n.kind),.sc (.string (ba n.text)),.sc (.int .i64 n.num),.sc (.int .i64 n.pos),.slice .imm 1 (n.names.map z8),.slice .imm 6 (n.kids.map zq)],.sc (.int .i64 lo)] K st:=by
 have:=Nv hT hd hf h2 hr hl hk;rw[qR] at this;exact this
theorem XB{n:Nd}{r:Bool}(hr:qa n=r)(hk:K (.sc (.bool r)) st):ACalls prog 41 [.agg [.sc (.int .i64 n.kind),.sc (.string (ba n.text)),.sc (.int .i64 n.num),.sc (.int .i64 n.pos),.slice .imm 1 (n.names.map z8),.slice .imm 6 (n.kids.map zq)]] K st:=by
 have:=aQ hr hk;rw[qR] at this;exact this
theorem gj{d:Nat}(hT:TxC d){l:List Nd}(hd:∀ c∈l,Dep d c)(hf:∀ c∈l,Fit c)(hn:l.length≤100000){r:Tx}(hr:Yi (zn d) [] l.tail=r)(hl:r.length≤140737488355328)(hk:K (.sc (.string (ba r))) st) :
  ACalls prog 69 [.slice .imm 6 (List.drop 1 (l.map zq))] K st:=by
 have e:List.drop 1 (l.map zq)=l.tail.map zq:=by cases l <;> rfl
 rw[e];exact lD hT (fun c hc=>hd c (List.mem_of_mem_tail hc)) (fun c hc=>hf c (List.mem_of_mem_tail hc)) (by simp;omega) hr hl hk
theorem qP:(!(([]:Tx)==[]))=false:=rfl
theorem qn(T:Nd→Int→Tx)(n:Nd)(lo:Int)(h:qa n=true)(hk:qM n.kind=[]):QE T n lo=if n.kind=1 then X8 n.num else if n.kind=2 then X' n.text else if n.kind=3 then [40,32,41]
 else if n.kind=4∨n.kind=5∨n.kind=27 then XJ T lo n.text n.kids
 else if n.kind=24 then [95] else if n.kind=19 then [114,101,116,114,121]
 else if n.kind=6 then qF [[102,117,110],n.text,[45,62],zg T (kid n 0) lo lo]
 else if n.kind=7 then qF [zg T (kid n 0) 1 lo,zg T (kid n 1) 0 lo]
 else if n.kind=8 then qF [Z' T [108,101,116] n lo,[105,110],zg T (kid n 1) lo lo]
 else if n.kind=9 then qF [Z' T [108,101,116,32,114,101,99] n lo,[105,110],zg T (kid n 1) lo lo]
 else if n.kind=10 then qF [[105,102],zg T (kid n 0) lo lo,[116,104,101,110],zg T (kid n 1) lo lo,[101,108,115,101],zg T (kid n 2) lo lo]
 else if n.kind=11 then qF [[109,97,116,99,104],zg T (kid n 0) 7 7,[119,105,116,104]]++Yi T [] n.kids.tail++[32,101,110,100]
 else if n.kind=12 then qF [[116,114,121],zg T (kid n 0) 7 7,[119,105,116,104],n.text,[45,62],zg T (kid n 1) 7 7,[101,110,100]]
 else if n.kind=13 then bq T n lo
 else if n.kind=14 then qF [zg T (kid n 0) 5 lo,[59],zg T (kid n 1) 7 7]
 else [36]:=by
 unfold QE;rw[if_neg (by rw[h];decide),if_neg (by rw[hk];decide)]
theorem tN{d:Nat}(hT:TxC d){n:Nd}(hkd:n.kind=3)(hm:qa n=true)(hd:Dep (d+1) n)(hf:Fit n){lo:Int}:W6 45 d n lo:=by
 intro r hr hl K st hk;refine zc [] func45 rfl results45 ntmps45 ?_;have hky:qM n.kind=[]:=by rw[hkd];decide
 rw[qn _ _ _ hm hky] at hr;simp only[hkd,Int.reduceEq,if_true,if_false,or_false,false_or,or_true,true_or] at hr;have D:∀ j:Int,(n.kind==j)=((3:Int)==j):=fun j=>by rw[hkd]
 have hh:=hf.kids.2.1;simp -implicitDefEqProofs (maxSteps:=9^9) only[go_sem,za];refine XB hm ?_;simp -implicitDefEqProofs (maxSteps:=9^9) only[go_sem,za];refine Xa hky ?_;simp -implicitDefEqProofs (maxSteps:=9^9) only[go_sem,za,D,Int.reduceBEq,qP];subst hr;exact zu (zh _ _) hk
theorem nG{d:Nat}(hT:TxC d){n:Nd}(hkd:n.kind=24)(hm:qa n=true)(hd:Dep (d+1) n)(hf:Fit n){lo:Int}:W6 45 d n lo:=by
 intro r hr hl K st hk;refine zc [] func45 rfl results45 ntmps45 ?_;have hky:qM n.kind=[]:=by rw[hkd];decide
 rw[qn _ _ _ hm hky] at hr;simp only[hkd,Int.reduceEq,if_true,if_false,or_false,false_or,or_true,true_or] at hr;have D:∀ j:Int,(n.kind==j)=((24:Int)==j):=fun j=>by rw[hkd]
 have hh:=hf.kids.2.1;simp -implicitDefEqProofs (maxSteps:=9^9) only[go_sem,za];refine XB hm ?_;simp -implicitDefEqProofs (maxSteps:=9^9) only[go_sem,za];refine Xa hky ?_;simp -implicitDefEqProofs (maxSteps:=9^9) only[go_sem,za,D,Int.reduceBEq,qP];subst hr;exact zu (zh _ _) hk
theorem ce{d:Nat}(hT:TxC d){n:Nd}(hkd:n.kind=19)(hm:qa n=true)(hd:Dep (d+1) n)(hf:Fit n){lo:Int}:W6 45 d n lo:=by
 intro r hr hl K st hk;refine zc [] func45 rfl results45 ntmps45 ?_;have hky:qM n.kind=[]:=by rw[hkd];decide
 rw[qn _ _ _ hm hky] at hr;simp only[hkd,Int.reduceEq,if_true,if_false,or_false,false_or,or_true,true_or] at hr;have D:∀ j:Int,(n.kind==j)=((19:Int)==j):=fun j=>by rw[hkd]
 have hh:=hf.kids.2.1;simp -implicitDefEqProofs (maxSteps:=9^9) only[go_sem,za];refine XB hm ?_;simp -implicitDefEqProofs (maxSteps:=9^9) only[go_sem,za];refine Xa hky ?_;simp -implicitDefEqProofs (maxSteps:=9^9) only[go_sem,za,D,Int.reduceBEq,qP];subst hr;exact zu (zh _ _) hk
theorem fE{d:Nat}(hT:TxC d){n:Nd}(hkd:n.kind=4)(hm:qa n=true)(hd:Dep (d+1) n)(hf:Fit n){lo:Int}:W6 45 d n lo:=by
 intro r hr hl K st hk;refine zc [] func45 rfl results45 ntmps45 ?_;have hky:qM n.kind=[]:=by rw[hkd];decide
 rw[qn _ _ _ hm hky] at hr;simp only[hkd,Int.reduceEq,if_true,if_false,or_false,false_or,or_true,true_or] at hr;have D:∀ j:Int,(n.kind==j)=((4:Int)==j):=fun j=>by rw[hkd]
 have hh:=hf.kids.2.1;simp -implicitDefEqProofs (maxSteps:=9^9) only[go_sem,za];refine XB hm ?_;simp -implicitDefEqProofs (maxSteps:=9^9) only[go_sem,za];refine Xa hky ?_;simp -implicitDefEqProofs (maxSteps:=9^9) only[go_sem,za,D,Int.reduceBEq,qP];refine Lg hT hd.kids hf.kids.1 hh hr hl ?_;simp only[go_sem];exact zu (zh _ _) hk
theorem fA{d:Nat}(hT:TxC d){n:Nd}(hkd:n.kind=5)(hm:qa n=true)(hd:Dep (d+1) n)(hf:Fit n){lo:Int}:W6 45 d n lo:=by
 intro r hr hl K st hk;refine zc [] func45 rfl results45 ntmps45 ?_;have hky:qM n.kind=[]:=by rw[hkd];decide
 rw[qn _ _ _ hm hky] at hr;simp only[hkd,Int.reduceEq,if_true,if_false,or_false,false_or,or_true,true_or] at hr;have D:∀ j:Int,(n.kind==j)=((5:Int)==j):=fun j=>by rw[hkd]
 have hh:=hf.kids.2.1;simp -implicitDefEqProofs (maxSteps:=9^9) only[go_sem,za];refine XB hm ?_;simp -implicitDefEqProofs (maxSteps:=9^9) only[go_sem,za];refine Xa hky ?_;simp -implicitDefEqProofs (maxSteps:=9^9) only[go_sem,za,D,Int.reduceBEq,qP];refine Lg hT hd.kids hf.kids.1 hh hr hl ?_;simp only[go_sem];exact zu (zh _ _) hk
theorem nH{d:Nat}(hT:TxC d){n:Nd}(hkd:n.kind=27)(hm:qa n=true)(hd:Dep (d+1) n)(hf:Fit n){lo:Int}:W6 45 d n lo:=by
 intro r hr hl K st hk;refine zc [] func45 rfl results45 ntmps45 ?_;have hky:qM n.kind=[]:=by rw[hkd];decide
 rw[qn _ _ _ hm hky] at hr;simp only[hkd,Int.reduceEq,if_true,if_false,or_false,false_or,or_true,true_or] at hr;have D:∀ j:Int,(n.kind==j)=((27:Int)==j):=fun j=>by rw[hkd]
 have hh:=hf.kids.2.1;simp -implicitDefEqProofs (maxSteps:=9^9) only[go_sem,za];refine XB hm ?_;simp -implicitDefEqProofs (maxSteps:=9^9) only[go_sem,za];refine Xa hky ?_;simp -implicitDefEqProofs (maxSteps:=9^9) only[go_sem,za,D,Int.reduceBEq,qP];refine Lg hT hd.kids hf.kids.1 hh hr hl ?_;simp only[go_sem];exact zu (zh _ _) hk
theorem tU{d:Nat}(hT:TxC d){n:Nd}(hkd:n.kind=6)(hm:qa n=true)(hd:Dep (d+1) n)(hf:Fit n){lo:Int}:W6 45 d n lo:=by
 intro r hr hl K st hk;refine zc [] func45 rfl results45 ntmps45 ?_;have hky:qM n.kind=[]:=by rw[hkd];decide
 rw[qn _ _ _ hm hky] at hr;simp only[hkd,Int.reduceEq,if_true,if_false,or_false,false_or,or_true,true_or] at hr;have D:∀ j:Int,(n.kind==j)=((6:Int)==j):=fun j=>by rw[hkd]
 have hh:=hf.kids.2.1;have hm2:=hm;unfold qa at hm2;simp only[hkd,Int.reduceEq,if_true,if_false,or_false,false_or,or_true,true_or,decide_eq_true_eq] at hm2;have h0:0<n.kids.length:=by omega
 have g0:=qy h0;have hl1:=hl;rw[←hr,ZF] at hl1;simp -implicitDefEqProofs (maxSteps:=9^9) only[go_sem,za];refine XB hm ?_;simp -implicitDefEqProofs (maxSteps:=9^9) only[go_sem,za];refine Xa hky ?_;simp -implicitDefEqProofs (maxSteps:=9^9) only[go_sem,za,D,Int.reduceBEq,qP];refine zy [] mixed rfl ?_;try simp only[go_sem,za,xlM,Int.reduceToNat,g0]
 refine⟨by omega,?_⟩;rw[zp];refine⟨.sc (.string (ba (zg (zn d) (kid n 0) lo lo))),?_,?_⟩
 ·simp only[go_sem];refine Zc hT (z7 hd h0) (zZ hf h0) rfl (by omega) ?_;exact zG
 try simp only[go_sem,za,xlM,Int.reduceToNat,g0]
 rw[zp];refine⟨.slice .full 1 ([[102,117,110],n.text,[45,62],zg (zn d) (kid n 0) lo lo].map z8),?_,?_⟩
 ·simp only[go_sem];exact⟨⟨[],by simp⟩,ZX _ .full (.inr rfl) _ [[102,117,110],n.text,[45,62],zg (zn d) (kid n 0) lo lo],.inl rfl⟩
 try simp only[go_sem,za,xlM,Int.reduceToNat]
 rw[zp];refine⟨.sc (.string (ba (r))),?_,?_⟩
 ·simp only[go_sem];refine QI (l:=[[102,117,110],n.text,[45,62],zg (zn d) (kid n 0) lo lo]) (by simp) (by simp) hr hl ?_;exact zG
 try simp only[go_sem,za,xlM,Int.reduceToNat]
 exact zu (zh _ _) hk
theorem bO{d:Nat}(hT:TxC d){n:Nd}(hkd:n.kind=7)(hm:qa n=true)(hd:Dep (d+1) n)(hf:Fit n){lo:Int}:W6 45 d n lo:=by
 intro r hr hl K st hk;refine zc [] func45 rfl results45 ntmps45 ?_;have hky:qM n.kind=[]:=by rw[hkd];decide
 rw[qn _ _ _ hm hky] at hr;simp only[hkd,Int.reduceEq,if_true,if_false,or_false,false_or,or_true,true_or] at hr;have D:∀ j:Int,(n.kind==j)=((7:Int)==j):=fun j=>by rw[hkd]
 have hh:=hf.kids.2.1;have hm2:=hm;unfold qa at hm2;simp only[hkd,Int.reduceEq,if_true,if_false,or_false,false_or,or_true,true_or,decide_eq_true_eq] at hm2;have h0:0<n.kids.length:=by omega
 have g0:=qy h0;have h1:1<n.kids.length:=by omega
 have g1:=qy h1;have hl1:=hl;rw[←hr,q8] at hl1;simp -implicitDefEqProofs (maxSteps:=9^9) only[go_sem,za];refine XB hm ?_;simp -implicitDefEqProofs (maxSteps:=9^9) only[go_sem,za];refine Xa hky ?_;simp -implicitDefEqProofs (maxSteps:=9^9) only[go_sem,za,D,Int.reduceBEq,qP];refine zy [] mixed rfl ?_;try simp only[go_sem,za,xlM,Int.reduceToNat,g0,g1]
 refine⟨by omega,?_⟩;rw[zp];refine⟨.sc (.string (ba (zg (zn d) (kid n 0) 1 lo))),?_,?_⟩
 ·simp only[go_sem];refine Zc hT (z7 hd h0) (zZ hf h0) rfl (by omega) ?_;exact zG
 try simp only[go_sem,za,xlM,Int.reduceToNat,g0,g1]
 refine⟨by omega,?_⟩;rw[zp];refine⟨.sc (.string (ba (zg (zn d) (kid n 1) 0 lo))),?_,?_⟩
 ·simp only[go_sem];refine Zc hT (z7 hd h1) (zZ hf h1) rfl (by omega) ?_;exact zG
 try simp only[go_sem,za,xlM,Int.reduceToNat,g0,g1]
 rw[zp];refine⟨.slice .full 1 ([zg (zn d) (kid n 0) 1 lo,zg (zn d) (kid n 1) 0 lo].map z8),?_,?_⟩
 ·simp only[go_sem];exact⟨⟨[],by simp⟩,ZX _ .full (.inr rfl) _ [zg (zn d) (kid n 0) 1 lo,zg (zn d) (kid n 1) 0 lo],.inl rfl⟩
 try simp only[go_sem,za,xlM,Int.reduceToNat]
 rw[zp];refine⟨.sc (.string (ba (r))),?_,?_⟩
 ·simp only[go_sem];refine QI (l:=[zg (zn d) (kid n 0) 1 lo,zg (zn d) (kid n 1) 0 lo]) (by simp) (by simp) hr hl ?_;exact zG
 try simp only[go_sem,za,xlM,Int.reduceToNat]
 exact zu (zh _ _) hk
theorem oK{d:Nat}(hT:TxC d){n:Nd}(hkd:n.kind=8)(hm:qa n=true)(hd:Dep (d+1) n)(hf:Fit n){lo:Int}:W6 45 d n lo:=by
 intro r hr hl K st hk;refine zc [] func45 rfl results45 ntmps45 ?_;have hky:qM n.kind=[]:=by rw[hkd];decide
 rw[qn _ _ _ hm hky] at hr;simp only[hkd,Int.reduceEq,if_true,if_false,or_false,false_or,or_true,true_or] at hr;have D:∀ j:Int,(n.kind==j)=((8:Int)==j):=fun j=>by rw[hkd]
 have hh:=hf.kids.2.1;have hm2:=hm;unfold qa at hm2;simp only[hkd,Int.reduceEq,if_true,if_false,or_false,false_or,or_true,true_or,decide_eq_true_eq] at hm2;have h0:0<n.kids.length:=by omega
 have g0:=qy h0;have h1:1<n.kids.length:=by omega
 have g1:=qy h1;have hl1:=hl;rw[←hr,qU] at hl1;simp -implicitDefEqProofs (maxSteps:=9^9) only[go_sem,za];refine XB hm ?_;simp -implicitDefEqProofs (maxSteps:=9^9) only[go_sem,za];refine Xa hky ?_;simp -implicitDefEqProofs (maxSteps:=9^9) only[go_sem,za,D,Int.reduceBEq,qP];refine zy [] mixed rfl ?_;try simp only[go_sem,za,xlM,Int.reduceToNat,g0,g1]
 rw[zp];refine⟨.sc (.string (ba (Z' (zn d) [108,101,116] n lo))),?_,?_⟩
 ·simp only[go_sem];refine yi hT hd hf h0 rfl rfl (by omega) ?_;exact zG
 try simp only[go_sem,za,xlM,Int.reduceToNat,g0,g1]
 refine⟨by omega,?_⟩;rw[zp];refine⟨.sc (.string (ba (zg (zn d) (kid n 1) lo lo))),?_,?_⟩
 ·simp only[go_sem];refine Zc hT (z7 hd h1) (zZ hf h1) rfl (by omega) ?_;exact zG
 try simp only[go_sem,za,xlM,Int.reduceToNat,g0,g1]
 rw[zp];refine⟨.slice .full 1 ([Z' (zn d) [108,101,116] n lo,[105,110],zg (zn d) (kid n 1) lo lo].map z8),?_,?_⟩
 ·simp only[go_sem];exact⟨⟨[],by simp⟩,ZX _ .full (.inr rfl) _ [Z' (zn d) [108,101,116] n lo,[105,110],zg (zn d) (kid n 1) lo lo],.inl rfl⟩
 try simp only[go_sem,za,xlM,Int.reduceToNat]
 rw[zp];refine⟨.sc (.string (ba (r))),?_,?_⟩
 ·simp only[go_sem];refine QI (l:=[Z' (zn d) [108,101,116] n lo,[105,110],zg (zn d) (kid n 1) lo lo]) (by simp) (by simp) hr hl ?_;exact zG
 try simp only[go_sem,za,xlM,Int.reduceToNat]
 exact zu (zh _ _) hk
theorem fh{d:Nat}(hT:TxC d){n:Nd}(hkd:n.kind=9)(hm:qa n=true)(hd:Dep (d+1) n)(hf:Fit n){lo:Int}:W6 45 d n lo:=by
 intro r hr hl K st hk;refine zc [] func45 rfl results45 ntmps45 ?_;have hky:qM n.kind=[]:=by rw[hkd];decide
 rw[qn _ _ _ hm hky] at hr;simp only[hkd,Int.reduceEq,if_true,if_false,or_false,false_or,or_true,true_or] at hr;have D:∀ j:Int,(n.kind==j)=((9:Int)==j):=fun j=>by rw[hkd]
 have hh:=hf.kids.2.1;have hm2:=hm;unfold qa at hm2;simp only[hkd,Int.reduceEq,if_true,if_false,or_false,false_or,or_true,true_or,decide_eq_true_eq] at hm2;have h0:0<n.kids.length:=by omega
 have g0:=qy h0;have h1:1<n.kids.length:=by omega
 have g1:=qy h1;have hl1:=hl;rw[←hr,qU] at hl1;simp -implicitDefEqProofs (maxSteps:=9^9) only[go_sem,za];refine XB hm ?_;simp -implicitDefEqProofs (maxSteps:=9^9) only[go_sem,za];refine Xa hky ?_;simp -implicitDefEqProofs (maxSteps:=9^9) only[go_sem,za,D,Int.reduceBEq,qP];refine zy [] mixed rfl ?_;try simp only[go_sem,za,xlM,Int.reduceToNat,g0,g1]
 rw[zp];refine⟨.sc (.string (ba (Z' (zn d) [108,101,116,32,114,101,99] n lo))),?_,?_⟩
 ·simp only[go_sem];refine yi hT hd hf h0 rfl rfl (by omega) ?_;exact zG
 try simp only[go_sem,za,xlM,Int.reduceToNat,g0,g1]
 refine⟨by omega,?_⟩;rw[zp];refine⟨.sc (.string (ba (zg (zn d) (kid n 1) lo lo))),?_,?_⟩
 ·simp only[go_sem];refine Zc hT (z7 hd h1) (zZ hf h1) rfl (by omega) ?_;exact zG
 try simp only[go_sem,za,xlM,Int.reduceToNat,g0,g1]
 rw[zp];refine⟨.slice .full 1 ([Z' (zn d) [108,101,116,32,114,101,99] n lo,[105,110],zg (zn d) (kid n 1) lo lo].map z8),?_,?_⟩
 ·simp only[go_sem];exact⟨⟨[],by simp⟩,ZX _ .full (.inr rfl) _ [Z' (zn d) [108,101,116,32,114,101,99] n lo,[105,110],zg (zn d) (kid n 1) lo lo],.inl rfl⟩
 try simp only[go_sem,za,xlM,Int.reduceToNat]
 rw[zp];refine⟨.sc (.string (ba (r))),?_,?_⟩
 ·simp only[go_sem];refine QI (l:=[Z' (zn d) [108,101,116,32,114,101,99] n lo,[105,110],zg (zn d) (kid n 1) lo lo]) (by simp) (by simp) hr hl ?_;exact zG
 try simp only[go_sem,za,xlM,Int.reduceToNat]
 exact zu (zh _ _) hk
theorem p8{d:Nat}(hT:TxC d){n:Nd}(hkd:n.kind=10)(hm:qa n=true)(hd:Dep (d+1) n)(hf:Fit n){lo:Int}:W6 45 d n lo:=by
 intro r hr hl K st hk;refine zc [] func45 rfl results45 ntmps45 ?_;have hky:qM n.kind=[]:=by rw[hkd];decide
 rw[qn _ _ _ hm hky] at hr;simp only[hkd,Int.reduceEq,if_true,if_false,or_false,false_or,or_true,true_or] at hr;have D:∀ j:Int,(n.kind==j)=((10:Int)==j):=fun j=>by rw[hkd]
 have hh:=hf.kids.2.1;have hm2:=hm;unfold qa at hm2;simp only[hkd,Int.reduceEq,if_true,if_false,or_false,false_or,or_true,true_or,decide_eq_true_eq] at hm2;have h0:0<n.kids.length:=by omega
 have g0:=qy h0;have h1:1<n.kids.length:=by omega
 have g1:=qy h1;have h2:2<n.kids.length:=by omega
 have g2:=qy h2;have hl1:=hl;rw[←hr,Gg] at hl1;simp -implicitDefEqProofs (maxSteps:=9^9) only[go_sem,za];refine XB hm ?_;simp -implicitDefEqProofs (maxSteps:=9^9) only[go_sem,za];refine Xa hky ?_;simp -implicitDefEqProofs (maxSteps:=9^9) only[go_sem,za,D,Int.reduceBEq,qP];refine zy [] mixed rfl ?_;try simp only[go_sem,za,xlM,Int.reduceToNat,g0,g1,g2]
 refine⟨by omega,?_⟩;rw[zp];refine⟨.sc (.string (ba (zg (zn d) (kid n 0) lo lo))),?_,?_⟩
 ·simp only[go_sem];refine Zc hT (z7 hd h0) (zZ hf h0) rfl (by omega) ?_;exact zG
 try simp only[go_sem,za,xlM,Int.reduceToNat,g0,g1,g2]
 refine⟨by omega,?_⟩;rw[zp];refine⟨.sc (.string (ba (zg (zn d) (kid n 1) lo lo))),?_,?_⟩
 ·simp only[go_sem];refine Zc hT (z7 hd h1) (zZ hf h1) rfl (by omega) ?_;exact zG
 try simp only[go_sem,za,xlM,Int.reduceToNat,g0,g1,g2]
 refine⟨by omega,?_⟩;rw[zp];refine⟨.sc (.string (ba (zg (zn d) (kid n 2) lo lo))),?_,?_⟩
 ·simp only[go_sem];refine Zc hT (z7 hd h2) (zZ hf h2) rfl (by omega) ?_;exact zG
 try simp only[go_sem,za,xlM,Int.reduceToNat,g0,g1,g2]
 rw[zp];refine⟨.slice .full 1 ([[105,102],zg (zn d) (kid n 0) lo lo,[116,104,101,110],zg (zn d) (kid n 1) lo lo,[101,108,115,101],zg (zn d) (kid n 2) lo lo].map z8),?_,?_⟩
 ·simp only[go_sem];exact⟨⟨[],by simp⟩,ZX _ .full (.inr rfl) _ [[105,102],zg (zn d) (kid n 0) lo lo,[116,104,101,110],zg (zn d) (kid n 1) lo lo,[101,108,115,101],zg (zn d) (kid n 2) lo lo],.inl rfl⟩
 try simp only[go_sem,za,xlM,Int.reduceToNat]
 rw[zp];refine⟨.sc (.string (ba (r))),?_,?_⟩
 ·simp only[go_sem];refine QI (l:=[[105,102],zg (zn d) (kid n 0) lo lo,[116,104,101,110],zg (zn d) (kid n 1) lo lo,[101,108,115,101],zg (zn d) (kid n 2) lo lo]) (by simp) (by simp) hr hl ?_;exact zG
 try simp only[go_sem,za,xlM,Int.reduceToNat]
 exact zu (zh _ _) hk
theorem nN{d:Nat}(hT:TxC d){n:Nd}(hkd:n.kind=12)(hm:qa n=true)(hd:Dep (d+1) n)(hf:Fit n){lo:Int}:W6 45 d n lo:=by
 intro r hr hl K st hk;refine zc [] func45 rfl results45 ntmps45 ?_;have hky:qM n.kind=[]:=by rw[hkd];decide
 rw[qn _ _ _ hm hky] at hr;simp only[hkd,Int.reduceEq,if_true,if_false,or_false,false_or,or_true,true_or] at hr;have D:∀ j:Int,(n.kind==j)=((12:Int)==j):=fun j=>by rw[hkd]
 have hh:=hf.kids.2.1;have hm2:=hm;unfold qa at hm2;simp only[hkd,Int.reduceEq,if_true,if_false,or_false,false_or,or_true,true_or,decide_eq_true_eq] at hm2;have h0:0<n.kids.length:=by omega
 have g0:=qy h0;have h1:1<n.kids.length:=by omega
 have g1:=qy h1;have hl1:=hl;rw[←hr,GO] at hl1;simp -implicitDefEqProofs (maxSteps:=9^9) only[go_sem,za];refine XB hm ?_;simp -implicitDefEqProofs (maxSteps:=9^9) only[go_sem,za];refine Xa hky ?_;simp -implicitDefEqProofs (maxSteps:=9^9) only[go_sem,za,D,Int.reduceBEq,qP];refine zy [] mixed rfl ?_;try simp only[go_sem,za,xlM,Int.reduceToNat,g0,g1]
 refine⟨by omega,?_⟩;rw[zp];refine⟨.sc (.string (ba (zg (zn d) (kid n 0) 7 7))),?_,?_⟩
 ·simp only[go_sem];refine Zc hT (z7 hd h0) (zZ hf h0) rfl (by omega) ?_;exact zG
 try simp only[go_sem,za,xlM,Int.reduceToNat,g0,g1]
 refine⟨by omega,?_⟩;rw[zp];refine⟨.sc (.string (ba (zg (zn d) (kid n 1) 7 7))),?_,?_⟩
 ·simp only[go_sem];refine Zc hT (z7 hd h1) (zZ hf h1) rfl (by omega) ?_;exact zG
 try simp only[go_sem,za,xlM,Int.reduceToNat,g0,g1]
 rw[zp];refine⟨.slice .full 1 ([[116,114,121],zg (zn d) (kid n 0) 7 7,[119,105,116,104],n.text,[45,62],zg (zn d) (kid n 1) 7 7,[101,110,100]].map z8),?_,?_⟩
 ·simp only[go_sem];exact⟨⟨[],by simp⟩,ZX _ .full (.inr rfl) _ [[116,114,121],zg (zn d) (kid n 0) 7 7,[119,105,116,104],n.text,[45,62],zg (zn d) (kid n 1) 7 7,[101,110,100]],.inl rfl⟩
 try simp only[go_sem,za,xlM,Int.reduceToNat]
 rw[zp];refine⟨.sc (.string (ba (r))),?_,?_⟩
 ·simp only[go_sem];refine QI (l:=[[116,114,121],zg (zn d) (kid n 0) 7 7,[119,105,116,104],n.text,[45,62],zg (zn d) (kid n 1) 7 7,[101,110,100]]) (by simp) (by simp) hr hl ?_;exact zG
 try simp only[go_sem,za,xlM,Int.reduceToNat]
 exact zu (zh _ _) hk
theorem pF{d:Nat}(hT:TxC d){n:Nd}(hkd:n.kind=13)(hm:qa n=true)(hd:Dep (d+1) n)(hf:Fit n){lo:Int}:W6 45 d n lo:=by
 intro r hr hl K st hk;refine zc [] func45 rfl results45 ntmps45 ?_;have hky:qM n.kind=[]:=by rw[hkd];decide
 rw[qn _ _ _ hm hky] at hr;simp only[hkd,Int.reduceEq,if_true,if_false,or_false,false_or,or_true,true_or] at hr;have D:∀ j:Int,(n.kind==j)=((13:Int)==j):=fun j=>by rw[hkd]
 have hh:=hf.kids.2.1;have hm2:=hm;unfold qa at hm2;simp only[hkd,Int.reduceEq,if_true,if_false,or_false,false_or,or_true,true_or,decide_eq_true_eq] at hm2;have h0:0<n.kids.length:=by omega
 have h1:1<n.kids.length:=by omega
 simp -implicitDefEqProofs (maxSteps:=9^9) only[go_sem,za];refine XB hm ?_;simp -implicitDefEqProofs (maxSteps:=9^9) only[go_sem,za];refine Xa hky ?_;simp -implicitDefEqProofs (maxSteps:=9^9) only[go_sem,za,D,Int.reduceBEq,qP];refine Oa hT hd hf h1 hr hl ?_;simp only[go_sem];exact zu (zh _ _) hk
theorem dp{d:Nat}(hT:TxC d){n:Nd}(hkd:n.kind=14)(hm:qa n=true)(hd:Dep (d+1) n)(hf:Fit n){lo:Int}:W6 45 d n lo:=by
 intro r hr hl K st hk;refine zc [] func45 rfl results45 ntmps45 ?_;have hky:qM n.kind=[]:=by rw[hkd];decide
 rw[qn _ _ _ hm hky] at hr;simp only[hkd,Int.reduceEq,if_true,if_false,or_false,false_or,or_true,true_or] at hr;have D:∀ j:Int,(n.kind==j)=((14:Int)==j):=fun j=>by rw[hkd]
 have hh:=hf.kids.2.1;have hm2:=hm;unfold qa at hm2;simp only[hkd,Int.reduceEq,if_true,if_false,or_false,false_or,or_true,true_or,decide_eq_true_eq] at hm2;have h0:0<n.kids.length:=by omega
 have g0:=qy h0;have h1:1<n.kids.length:=by omega
 have g1:=qy h1;have hl1:=hl;rw[←hr,qU] at hl1;simp -implicitDefEqProofs (maxSteps:=9^9) only[go_sem,za];refine XB hm ?_;simp -implicitDefEqProofs (maxSteps:=9^9) only[go_sem,za];refine Xa hky ?_;simp -implicitDefEqProofs (maxSteps:=9^9) only[go_sem,za,D,Int.reduceBEq,qP];refine zy [] mixed rfl ?_;try simp only[go_sem,za,xlM,Int.reduceToNat,g0,g1]
 refine⟨by omega,?_⟩;rw[zp];refine⟨.sc (.string (ba (zg (zn d) (kid n 0) 5 lo))),?_,?_⟩
 ·simp only[go_sem];refine Zc hT (z7 hd h0) (zZ hf h0) rfl (by omega) ?_;exact zG
 try simp only[go_sem,za,xlM,Int.reduceToNat,g0,g1]
 refine⟨by omega,?_⟩;rw[zp];refine⟨.sc (.string (ba (zg (zn d) (kid n 1) 7 7))),?_,?_⟩
 ·simp only[go_sem];refine Zc hT (z7 hd h1) (zZ hf h1) rfl (by omega) ?_;exact zG
 try simp only[go_sem,za,xlM,Int.reduceToNat,g0,g1]
 rw[zp];refine⟨.slice .full 1 ([zg (zn d) (kid n 0) 5 lo,[59],zg (zn d) (kid n 1) 7 7].map z8),?_,?_⟩
 ·simp only[go_sem];exact⟨⟨[],by simp⟩,ZX _ .full (.inr rfl) _ [zg (zn d) (kid n 0) 5 lo,[59],zg (zn d) (kid n 1) 7 7],.inl rfl⟩
 try simp only[go_sem,za,xlM,Int.reduceToNat]
 rw[zp];refine⟨.sc (.string (ba (r))),?_,?_⟩
 ·simp only[go_sem];refine QI (l:=[zg (zn d) (kid n 0) 5 lo,[59],zg (zn d) (kid n 1) 7 7]) (by simp) (by simp) hr hl ?_;exact zG
 try simp only[go_sem,za,xlM,Int.reduceToNat]
 exact zu (zh _ _) hk
theorem ms{d:Nat}(hT:TxC d){n:Nd}(hkd:n.kind=11)(hm:qa n=true)(hd:Dep (d+1) n)(hf:Fit n){lo:Int}:W6 45 d n lo:=by
 intro r hr hl K st hk;refine zc [] func45 rfl results45 ntmps45 ?_;have hky:qM n.kind=[]:=by rw[hkd];decide
 rw[qn _ _ _ hm hky] at hr;simp only[hkd,Int.reduceEq,if_true,if_false,or_false,false_or,or_true,true_or] at hr;have D:∀ j:Int,(n.kind==j)=((11:Int)==j):=fun j=>by rw[hkd]
 have hh:=hf.kids.2.1;have hm2:=hm;unfold qa at hm2;simp only[hkd,Int.reduceEq,if_true,if_false,or_false,false_or,or_true,true_or,decide_eq_true_eq] at hm2;have h0:0<n.kids.length:=by omega
 have g0:=qy h0;have hl1:=hl;rw[←hr,xlA,xlA,qU] at hl1;have hl2:(qF [[109,97,116,99,104],zg (zn d) (kid n 0) 7 7,[119,105,116,104]]).length≤140737488355328:=by rw[qU];omega
 simp -implicitDefEqProofs (maxSteps:=9^9) only[go_sem,za];refine XB hm ?_;simp -implicitDefEqProofs (maxSteps:=9^9) only[go_sem,za];refine Xa hky ?_;simp -implicitDefEqProofs (maxSteps:=9^9) only[go_sem,za,D,Int.reduceBEq,qP];refine zy [] mixed rfl ?_;try simp only[go_sem,za,xlM,Int.reduceToNat,g0]
 refine⟨by omega,?_⟩;rw[zp];refine⟨.sc (.string (ba (zg (zn d) (kid n 0) 7 7))),?_,?_⟩
 ·simp only[go_sem];refine Zc hT (z7 hd h0) (zZ hf h0) rfl (by omega) ?_;exact zG
 try simp only[go_sem,za,xlM,Int.reduceToNat,g0]
 rw[zp];refine⟨.slice .full 1 ([[109,97,116,99,104],zg (zn d) (kid n 0) 7 7,[119,105,116,104]].map z8),?_,?_⟩
 ·simp only[go_sem];exact⟨⟨[],by simp⟩,ZX _ .full (.inr rfl) _ [[109,97,116,99,104],zg (zn d) (kid n 0) 7 7,[119,105,116,104]],.inl rfl⟩
 try simp only[go_sem,za,xlM,Int.reduceToNat]
 rw[zp];refine⟨.sc (.string (ba (qF [[109,97,116,99,104],zg (zn d) (kid n 0) 7 7,[119,105,116,104]]))),?_,?_⟩
 ·simp only[go_sem];refine QI (l:=[[109,97,116,99,104],zg (zn d) (kid n 0) 7 7,[119,105,116,104]]) (by simp) (by simp) rfl hl2 ?_;exact zG
 try simp only[go_sem,za,xlM,Int.reduceToNat]
 refine⟨by omega,?_⟩;rw[zp];refine⟨.sc (.string (ba (Yi (zn d) [] n.kids.tail))),?_,?_⟩
 ·simp only[go_sem];refine gj hT hd.kids hf.kids.1 hh rfl (by omega) ?_;exact zG
 try simp only[go_sem,za,xlM,Int.reduceToNat]
 have e:ba (qF [[109,97,116,99,104],zg (zn d) (kid n 0) 7 7,[119,105,116,104]])++ba (Yi (zn d) [] n.kids.tail)++(⟨#[32,101,110,100]⟩:ByteArray)=ba r:=by
  rw[show (⟨#[32,101,110,100]⟩:ByteArray)=ba [32,101,110,100] from rfl,zL,zL,hr]
 rw[e];refine⟨?_,?_,zu (zh _ _) hk⟩
 ·simp only[xsA];omega
 ·simp only[xsA,xlC,xlN] at hl1 ⊢;omega
theorem oh{d:Nat}(hT:TxC d){n:Nd}(hkd:n.kind=1)(hm:qa n=true)(hd:Dep (d+1) n)(hf:Fit n){lo:Int}:W6 45 d n lo:=by
 intro r hr hl K st hk;refine zc [] func45 rfl results45 ntmps45 ?_;have hky:qM n.kind=[]:=by rw[hkd];decide
 rw[qn _ _ _ hm hky] at hr;simp only[hkd,Int.reduceEq,if_true,if_false,or_false,false_or,or_true,true_or] at hr;have D:∀ j:Int,(n.kind==j)=((1:Int)==j):=fun j=>by rw[hkd]
 have hh:=hf.kids.2.1;simp -implicitDefEqProofs (maxSteps:=9^9) only[go_sem,za];refine XB hm ?_;simp -implicitDefEqProofs (maxSteps:=9^9) only[go_sem,za];refine Xa hky ?_;simp -implicitDefEqProofs (maxSteps:=9^9) only[go_sem,za,D,Int.reduceBEq,qP];refine rd ?_;simp only[go_sem];subst hr;exact zu (zh _ _) hk
theorem ol{d:Nat}(hT:TxC d){n:Nd}(hkd:n.kind=2)(hm:qa n=true)(hd:Dep (d+1) n)(hf:Fit n){lo:Int}:W6 45 d n lo:=by
 intro r hr hl K st hk;refine zc [] func45 rfl results45 ntmps45 ?_;have hky:qM n.kind=[]:=by rw[hkd];decide
 rw[qn _ _ _ hm hky] at hr;simp only[hkd,Int.reduceEq,if_true,if_false,or_false,false_or,or_true,true_or] at hr;have D:∀ j:Int,(n.kind==j)=((2:Int)==j):=fun j=>by rw[hkd]
 have hh:=hf.kids.2.1;simp -implicitDefEqProofs (maxSteps:=9^9) only[go_sem,za];refine XB hm ?_;simp -implicitDefEqProofs (maxSteps:=9^9) only[go_sem,za];refine Xa hky ?_;simp -implicitDefEqProofs (maxSteps:=9^9) only[go_sem,za,D,Int.reduceBEq,qP];refine fm hf.kids.2.2.2 ?_;simp only[go_sem];subst hr;exact zu (zh _ _) hk
theorem bM{d:Nat}(hT:TxC d){n:Nd}(hm:qa n=false)(hd:Dep (d+1) n)(hf:Fit n){lo:Int}:W6 45 d n lo:=by
 intro r hr hl K st hk;refine zc [] func45 rfl results45 ntmps45 ?_;unfold QE at hr;rw[if_pos hm] at hr;subst hr;simp -implicitDefEqProofs (maxSteps:=9^9) only[go_sem,za];refine XB hm ?_;simp -implicitDefEqProofs (maxSteps:=9^9) only[go_sem,za];exact zu (zh _ _) hk
theorem oN{d:Nat}(hT:TxC d){n:Nd}(hm:qa n=true)(hky:qM n.kind≠[])(hd:Dep (d+1) n)(hf:Fit n){lo:Int}:W6 45 d n lo:=by
 intro r hr hl K st hk;refine zc [] func45 rfl results45 ntmps45 ?_;unfold QE at hr;rw[if_neg (by rw[hm];decide),if_pos hky] at hr;have e:(!(qM n.kind==[]))=true:=by simp[hky]
 simp -implicitDefEqProofs (maxSteps:=9^9) only[go_sem,za];refine XB hm ?_;simp -implicitDefEqProofs (maxSteps:=9^9) only[go_sem,za];refine Xa rfl ?_;simp -implicitDefEqProofs (maxSteps:=9^9) only[go_sem,za,e,Qy];refine Lg hT hd.kids hf.kids.1 hf.kids.2.1 hr hl ?_;simp only[go_sem];exact zu (zh _ _) hk
theorem bD{d:Nat}(hT:TxC d){n:Nd}(hm:qa n=true)(hky:qM n.kind=[])(d1:n.kind≠1)(d2:n.kind≠2)(d3:n.kind≠3)(d4:n.kind≠4)(d5:n.kind≠5)(d27:n.kind≠27)(d24:n.kind≠24)(d19:n.kind≠19)(d6:n.kind≠6)(d7:n.kind≠7)(d8:n.kind≠8)(d9:n.kind≠9)(d10:n.kind≠10)(d11:n.kind≠11)(d12:n.kind≠12)(d13:n.kind≠13)(d14:n.kind≠14)(hd:Dep (d+1) n)(hf:Fit n){lo:Int}:W6 45 d n lo:=by
 intro r hr hl K st hk;refine zc [] func45 rfl results45 ntmps45 ?_;rw[qn _ _ _ hm hky] at hr;simp only[d1,d2,d3,d4,d5,d27,d24,d19,d6,d7,d8,d9,d10,d11,d12,d13,d14,if_false,or_self] at hr;subst hr;have e1:(n.kind==1)=false:=by simp[d1]
 have e2:(n.kind==2)=false:=by simp[d2]
 have e3:(n.kind==3)=false:=by simp[d3]
 have e4:(n.kind==4)=false:=by simp[d4]
 have e5:(n.kind==5)=false:=by simp[d5]
 have e27:(n.kind==27)=false:=by simp[d27]
 have e24:(n.kind==24)=false:=by simp[d24]
 have e19:(n.kind==19)=false:=by simp[d19]
 have e6:(n.kind==6)=false:=by simp[d6]
 have e7:(n.kind==7)=false:=by simp[d7]
 have e8:(n.kind==8)=false:=by simp[d8]
 have e9:(n.kind==9)=false:=by simp[d9]
 have e10:(n.kind==10)=false:=by simp[d10]
 have e11:(n.kind==11)=false:=by simp[d11]
 have e12:(n.kind==12)=false:=by simp[d12]
 have e13:(n.kind==13)=false:=by simp[d13]
 have e14:(n.kind==14)=false:=by simp[d14]
 simp -implicitDefEqProofs (maxSteps:=9^9) only[go_sem,za];refine XB hm ?_;simp -implicitDefEqProofs (maxSteps:=9^9) only[go_sem,za];refine Xa hky ?_;simp -implicitDefEqProofs (maxSteps:=9^9) only[go_sem,za,qP,e1,e2,e3,e4,e5,e27,e24,e19,e6,e7,e8,e9,e10,e11,e12,e13,e14];exact zu (zh _ _) hk
theorem bF{d:Nat}(hT:TxC d):TxC (d+1):=by
 intro n lo r hd hf hr hl K st hk;have hr:QE (zn d) n lo=r:=hr;cases hm:qa n with
 | false=>exact bM hT hm hd hf hr hl hk
 | true =>
 by_cases hky:qM n.kind=[]
 rotate_left
 ·exact oN hT hm hky hd hf hr hl hk
 by_cases c1:n.kind=1
 ·exact oh hT c1 hm hd hf hr hl hk
 by_cases c2:n.kind=2
 ·exact ol hT c2 hm hd hf hr hl hk
 by_cases c3:n.kind=3
 ·exact tN hT c3 hm hd hf hr hl hk
 by_cases c4:n.kind=4
 ·exact fE hT c4 hm hd hf hr hl hk
 by_cases c5:n.kind=5
 ·exact fA hT c5 hm hd hf hr hl hk
 by_cases c27:n.kind=27
 ·exact nH hT c27 hm hd hf hr hl hk
 by_cases c24:n.kind=24
 ·exact nG hT c24 hm hd hf hr hl hk
 by_cases c19:n.kind=19
 ·exact ce hT c19 hm hd hf hr hl hk
 by_cases c6:n.kind=6
 ·exact tU hT c6 hm hd hf hr hl hk
 by_cases c7:n.kind=7
 ·exact bO hT c7 hm hd hf hr hl hk
 by_cases c8:n.kind=8
 ·exact oK hT c8 hm hd hf hr hl hk
 by_cases c9:n.kind=9
 ·exact fh hT c9 hm hd hf hr hl hk
 by_cases c10:n.kind=10
 ·exact p8 hT c10 hm hd hf hr hl hk
 by_cases c11:n.kind=11
 ·exact ms hT c11 hm hd hf hr hl hk
 by_cases c12:n.kind=12
 ·exact nN hT c12 hm hd hf hr hl hk
 by_cases c13:n.kind=13
 ·exact pF hT c13 hm hd hf hr hl hk
 by_cases c14:n.kind=14
 ·exact dp hT c14 hm hd hf hr hl hk
 exact bD hT hm hky c1 c2 c3 c4 c5 c27 c24 c19 c6 c7 c8 c9 c10 c11 c12 c13 c14 hd hf hr hl hk
theorem Wp:∀ d,TxC d
 | 0=>fun n lo r hd=>by obtain⟨k,hk⟩:=hd.pos;cases hk
 | d+1=>bF (Wp d)
end Go.Proofs
namespace Go.AL
theorem H6(T:Nd→Tx):∀ (l:List Nd) (w:Tx),w.length≤(XM T w l).length
 | [],w=>Nat.le_refl _
 | k::r,w=>by
  have h:=H6 T r (if 0<k.kids.length then qF [w,[40],T k,[41]] else qF [w,T k]);have h2:w.length≤(if 0<k.kids.length then qF [w,[40],T k,[41]] else qF [w,T k]).length:=by
   split
   ·rw[ZF];omega
   ·rw[q8];omega
  exact Nat.le_trans h2 h
theorem UZ(T:Nd→Tx):∀ (l:List Nd) (i:Nat) (w:Tx),w.length≤(V1 T i w l).length
 | [],_,w=>Nat.le_refl _
 | k::r,i,w=>by
  have h:=UZ T r (i+1) (qF [w,if i=0 then [111,102] else [44],T k]);rw[qU] at h;show _≤(V1 T _ _ r).length;omega
theorem Km(d:Nat):∀ (l:List Nd) (i:Nat) (w:Tx),w.length≤(YH d i w l).length
 | [],_,w=>Nat.le_refl _
 | k::r,i,w=>by
  have h:=Km d r (i+1) (qF [if 0<i then qF [w,[124]] else w,KD d k]);rw[q8] at h;have h2:w.length≤(if 0<i then qF [w,[124]] else w).length:=by
   split
   ·rw[q8];omega
   ·omega
  show _≤(YH d _ _ r).length;omega
end Go.AL
namespace Go.Proofs
open Go Go.AL Tryz
variable {K:SV→St→Prop}{st:St}
def TyC(d:Nat):Prop:=∀ (n:Nd) (r:Tx),Dep d n→Fit n→qk d n=r→r.length≤140737488355328→∀ (K:SV→St→Prop) (st:St),K (.sc (.string (ba r))) st→ACalls prog 64 [zq n] K st
theorem TyC.agg{d:Nat}(hT:TyC d){n:Nd}{r:Tx}(hd:Dep d n)(hf:Fit n)(hr:qk d n=r)(hl:r.length≤140737488355328)(hk:K (.sc (.string (ba r))) st) :
  ACalls prog 64 [.agg [.sc (.int .i64 n.kind),.sc (.string (ba n.text)),.sc (.int .i64 n.num),.sc (.int .i64 n.pos),.slice .imm 1 (n.names.map z8),.slice .imm 6 (n.kids.map zq)]] K st:=by
 have:=hT n r hd hf hr hl K st hk;rw[qR] at this;exact this
theorem pR{d:Nat}(hT:TyC d):TyC (d+1):=by
 intro n r hd hf hr hl K st hk;refine zc [] func64 rfl results64 ntmps64 ?_;have hn:=hf.kids.2.1;generalize hL:n.kids=l at *;have hr:XM (qk d) n.text l=r:=by rw[←hr,←hL];rfl
 have hd:∀ c∈l,Dep d c:=by rw[←hL];exact hd.kids
 have hf:∀ c∈l,Fit c:=by rw[←hL];exact hf.kids.1
 simp only[go_sem,za,xlM,hL];refine zt [] (fun k env s=>∃ (i:Nat) (v:Tx) (ex:St),k+i=l.length∧XM (qk d) v (l.drop i)=r∧env=(.any :: .any :: .any :: .sc (.string (ba v)) :: .any::XQ (.slice .imm 6 (l.map zq) :: .sc (.int .i64 l.length) :: .sc (.int .i64 i) :: .any :: .any :: .any::X3 []))∧s=st++ex) (n:=l.length) ?_ ⟨0,n.text,[],by omega,hr,rfl,by simp⟩ ?_
 ·exact qv
 rintro k env s ⟨i,v,ex,hi,hv,rfl,rfl⟩;by_cases hlt:i<l.length
 ·have c2:decide ((i:Int)<(l.length:Int))=true:=by simp;omega
  have w1:=KL i;have g1:=Zm hlt;rw[List.drop_eq_getElem_cons hlt] at hv;have hv:XM (qk d) (if 0<l[i].kids.length then qF [v,[40],qk d l[i],[41]] else qF [v,qk d l[i]]) (l.drop (i+1))=r:=hv;have hle:=H6 (qk d) (l.drop (i+1)) (if 0<l[i].kids.length then qF [v,[40],qk d l[i],[41]] else qF [v,qk d l[i]]);rw[hv] at hle;have hd1:=hd _ (List.getElem_mem hlt);have hf1:=hf _ (List.getElem_mem hlt);by_cases c:0<l[i].kids.length
  ·have b1:decide (0<(l[i].kids.length:Int))=true:=by rw[decide_eq_true_eq];omega
   rw[if_pos c] at hv hle;have hle2:=hle;rw[ZF] at hle2;simp only[go_sem,c2,w1,xlM,g1,za,b1];refine⟨by omega,?_⟩;refine hT.agg hd1 hf1 rfl (by omega) ?_;simp only[go_sem,w1];refine QI (l:=[v,[40],qk d l[i],[41]]) (by simp) (by simp) rfl (by omega) ?_;simp only[go_sem,w1];refine⟨k-1,_,by omega,?_,i+1,_,_,by omega,hv,rfl,rfl⟩;exact qv
  ·have b1:decide (0<(l[i].kids.length:Int))=false:=by rw[decide_eq_false_iff_not];omega
   rw[if_neg c] at hv hle;have hle2:=hle;rw[q8] at hle2;simp only[go_sem,c2,w1,xlM,g1,za,b1];refine⟨by omega,?_⟩;refine hT.agg hd1 hf1 rfl (by omega) ?_;simp only[go_sem,w1];refine QI (l:=[v,qk d l[i]]) (by simp) (by simp) rfl (by omega) ?_;simp only[go_sem,w1];refine⟨k-1,_,by omega,?_,i+1,_,_,by omega,hv,rfl,rfl⟩;exact qv
 ·have c2:decide ((i:Int)<(l.length:Int))=false:=by simp;omega
  rw[List.drop_of_length_le (by omega)] at hv;have hv:v=r:=hv;subst hv;simp only[go_sem,c2];exact zB (zh _ _) hk
theorem Lm:∀ d,TyC d
 | 0=>fun n r hd=>by obtain⟨k,hk⟩:=hd.pos;cases hk
 | d+1=>pR (Lm d)
theorem Cj{d:Nat}{n:Nd}(hd:Dep (d+1) n)(hf:Fit n){r:Tx}(hr:KD d n=r)(hl:r.length≤140737488355328)(hk:K (.sc (.string (ba r))) st):ACalls prog 43 [zq n] K st:=by
 refine zc [] func43 rfl results43 ntmps43 ?_;have hn:=hf.kids.2.1;generalize hL:n.kids=l at *;have hr:V1 (qk d) 0 n.text l=r:=by rw[←hr,←hL];rfl
 have hd:∀ c∈l,Dep d c:=by rw[←hL];exact hd.kids
 have hf:∀ c∈l,Fit c:=by rw[←hL];exact hf.kids.1
 simp only[go_sem,za,xlM,hL];refine zt [] (fun k env s=>∃ (i:Nat) (v:Tx) (ex:St),k+i=l.length∧V1 (qk d) i v (l.drop i)=r∧env=(.any :: .any :: .any :: .sc (.string (ba v)) :: .any :: .any::XQ (.slice .imm 6 (l.map zq) :: .sc (.int .i64 l.length) :: .sc (.int .i64 i) :: .any :: .any::XQ (JW [])))∧s=st++ex) (n:=l.length) ?_ ⟨0,n.text,[],by omega,hr,rfl,by simp⟩ ?_
 ·exact qv
 rintro k env s ⟨i,v,ex,hi,hv,rfl,rfl⟩;by_cases hlt:i<l.length
 ·have c2:decide ((i:Int)<(l.length:Int))=true:=by simp;omega
  have w1:=KL i;have g1:=Zm hlt;rw[List.drop_eq_getElem_cons hlt] at hv;have hv:V1 (qk d) (i+1) (qF [v,if i=0 then [111,102] else [44],qk d l[i]]) (l.drop (i+1))=r:=hv;have hle:=UZ (qk d) (l.drop (i+1)) (i+1) (qF [v,if i=0 then [111,102] else [44],qk d l[i]]);rw[hv] at hle;have hle2:=hle;rw[qU] at hle2;have hd1:=hd _ (List.getElem_mem hlt);have hf1:=hf _ (List.getElem_mem hlt);by_cases c:i=0
  ·have b1:((i:Int)==0)=true:=by simp[c]
   rw[if_pos c] at hv hle hle2;simp only[go_sem,c2,w1,xlM,g1,za,b1];refine⟨by omega,?_⟩;refine (Lm d).agg hd1 hf1 rfl (by omega) ?_;simp only[go_sem,w1];refine QI (l:=[v,[111,102],qk d l[i]]) (by simp) (by simp) rfl (by omega) ?_;simp only[go_sem,w1];refine⟨k-1,_,by omega,?_,i+1,_,_,by omega,hv,rfl,rfl⟩;exact qv
  ·have b1:((i:Int)==0)=false:=by simp[c]
   rw[if_neg c] at hv hle hle2;simp only[go_sem,c2,w1,xlM,g1,za,b1];refine⟨by omega,?_⟩;refine (Lm d).agg hd1 hf1 rfl (by omega) ?_;simp only[go_sem,w1];refine QI (l:=[v,[44],qk d l[i]]) (by simp) (by simp) rfl (by omega) ?_;simp only[go_sem,w1];refine⟨k-1,_,by omega,?_,i+1,_,_,by omega,hv,rfl,rfl⟩;exact qv
 ·have c2:decide ((i:Int)<(l.length:Int))=false:=by simp;omega
  rw[List.drop_of_length_le (by omega)] at hv;have hv:v=r:=hv;subst hv;simp only[go_sem,c2];exact zB (zh _ _) hk
theorem aK{m:Go.AL.Mode}{x:List SV}{l:List Tx}(hx:x=l.map z8)(h0:l≠[])(hn:l.length≤1000000){r:Tx}(hr:qF l=r)(hl:r.length≤140737488355328)(hk:K (.sc (.string (ba r))) st):ACalls prog 26 [.slice m 1 x] K st:=by
 subst hx;exact QI h0 hn hr hl hk
theorem o0{n:Nat}(h:n≤1000000):AppOk prog 23 23 1 n:=J4 Tryz.aelem23 Tryz.aelem23 Tryz.asize9 Tryz.azero9 rfl Tryz.abytes9 (by omega) h
theorem CU{d:Nat}{n:Nd}(hd:Dep (d+1) n)(hf:Fit n){r:Tx}(hr:KD d n=r)(hl:r.length≤140737488355328)(hk:K (.sc (.string (ba r))) st) :
  ACalls prog 43 [.agg [.sc (.int .i64 n.kind),.sc (.string (ba n.text)),.sc (.int .i64 n.num),.sc (.int .i64 n.pos),.slice .imm 1 (n.names.map z8),.slice .imm 6 (n.kids.map zq)]] K st:=by
 have:=Cj hd hf hr hl hk;rw[qR] at this;exact this
theorem fF{d:Nat}{n:Nd}(h25:n.kind=25)(hd:Dep (d+1) n)(hf:Fit n){r:Tx}(hr:ZU d n=r)(hl:r.length≤140737488355328)(hk:K (.sc (.string (ba r))) st):ACalls prog 27 [zq n] K st:=by
 refine zc [] func27 rfl results27 ntmps27 ?_;have e28:(n.kind==28)=false:=by simp[h25]
 have e29:(n.kind==29)=false:=by simp[h25]
 have e25:(n.kind != 25)=false:=by simp[h25]
 have hn:=hf.kids.2.1;have hns:=hf.kids.2.2.1;generalize hw:qF (([[116,121,112,101],n.text]++n.names)++[[61]])=w;have hr:YH d 0 w n.kids=r:=by
  rw[←hr,←hw];unfold ZU;rw[if_neg (by rw[h25];simp),if_neg (by rw[h25];simp),if_neg (by rw[h25];simp)]
 have hle0:=Km d n.kids 0 w;rw[hr] at hle0;have hmap:(SV.sc (.string ⟨#[116,121,112,101]⟩)::SV.sc (.string (ba n.text))::(n.names.map z8++[SV.sc (.string ⟨#[61]⟩)]))=(([[116,121,112,101],n.text]++n.names)++[[61]]:List Tx).map z8:=by
  simp[z8]
 simp only[go_sem,za,xlM,e28,e29,e25];refine⟨o0 (by omega),o0 (by omega),?_⟩;refine aK hmap (by simp) (by simp;omega) hw (by omega) ?_;simp only[go_sem,za,xlM];generalize hL:n.kids=l at *;have hd:∀ c∈l,Dep d c:=by rw[←hL];exact hd.kids
 have hf:∀ c∈l,Fit c:=by rw[←hL];exact hf.kids.1
 refine zt [] (fun k env s=>∃ (i:Nat) (v:Tx) (ex:St),k+i=l.length∧YH d i v (l.drop i)=r∧env=(.any :: .any :: .any :: .sc (.string (ba v))::XQ (XD (.slice .imm 6 (l.map zq) :: .sc (.int .i64 l.length) :: .sc (.int .i64 i)::X3 [])))∧s=st++ex) (n:=l.length) ?_ ⟨0,w,[.tok 1],by omega,hr,rfl,rfl⟩ ?_
 ·exact qv
 rintro k env s ⟨i,v,ex,hi,hv,rfl,rfl⟩;by_cases hlt:i<l.length
 ·have c2:decide ((i:Int)<(l.length:Int))=true:=by simp;omega
  have w1:=KL i;have g1:=Zm hlt;rw[List.drop_eq_getElem_cons hlt] at hv;have hv:YH d (i+1) (qF [if 0<i then qF [v,[124]] else v,KD d l[i]]) (l.drop (i+1))=r:=hv;have hle:=Km d (l.drop (i+1)) (i+1) (qF [if 0<i then qF [v,[124]] else v,KD d l[i]]);rw[hv] at hle;have hle2:=hle;rw[q8] at hle2;have hd1:Dep (d+1) l[i]:=(hd _ (List.getElem_mem hlt)).mono (Nat.le_succ d);have hf1:=hf _ (List.getElem_mem hlt);by_cases c:0<i
  ·have b1:decide (0<(i:Int))=true:=by rw[decide_eq_true_eq];omega
   rw[if_pos c] at hv hle hle2;simp only[go_sem,c2,w1,xlM,g1,za,gt_iff_lt,b1];refine⟨by omega,?_⟩;refine QI (l:=[v,[124]]) (by simp) (by simp) rfl (by omega) ?_;simp only[go_sem,w1];refine CU hd1 hf1 rfl (by omega) ?_;simp only[go_sem,w1];refine QI (l:=[qF [v,[124]],KD d l[i]]) (by simp) (by simp) rfl (by omega) ?_;simp only[go_sem,w1];refine⟨k-1,_,by omega,?_,i+1,_,_,by omega,hv,rfl,rfl⟩;exact qv
  ·have b1:decide (0<(i:Int))=false:=by rw[decide_eq_false_iff_not];omega
   rw[if_neg c] at hv hle hle2;simp only[go_sem,c2,w1,xlM,g1,za,gt_iff_lt,b1];refine⟨by omega,?_⟩;refine CU hd1 hf1 rfl (by omega) ?_;simp only[go_sem,w1];refine QI (l:=[v,KD d l[i]]) (by simp) (by simp) rfl (by omega) ?_;simp only[go_sem,w1];refine⟨k-1,_,by omega,?_,i+1,_,_,by omega,hv,rfl,rfl⟩;exact qv
 ·have c2:decide ((i:Int)<(l.length:Int))=false:=by simp;omega
  rw[List.drop_of_length_le (by omega)] at hv;have hv:v=r:=hv;subst hv;simp only[go_sem,c2];exact zB (zh _ _) hk
theorem tF{d:Nat}{n:Nd}(h25:n.kind≠25)(hd:Dep (d+1) n)(hf:Fit n){r:Tx}(hr:ZU d n=r)(hl:r.length≤140737488355328)(hk:K (.sc (.string (ba r))) st):ACalls prog 27 [zq n] K st:=by
 refine zc [] func27 rfl results27 ntmps27 ?_;have e25:(n.kind != 25)=true:=by simp[h25]
 unfold ZU at hr;by_cases c28:n.kind=28
 ·have e28:(n.kind==28)=true:=by simp[c28]
  have e29:(n.kind==29)=false:=by simp[c28]
  cases hm:qa n with
  | true =>
   rw[if_pos ⟨c28,hm⟩] at hr;have h1:0<n.kids.length:=by
    unfold qa at hm;simp only[c28] at hm;simp at hm;omega
   simp only[go_sem,za,e28];refine XB hm ?_;simp only[go_sem,za,e28];refine yi (Wp d) hd hf h1 (w:=[108,101,116]) rfl hr hl ?_;simp only[go_sem];exact zu (zh _ _) hk
  | false =>
   rw[if_neg (by rw[hm];simp),if_neg (by rw[c28];simp),if_pos h25] at hr;subst hr;simp only[go_sem,za,e28,e29];refine XB hm ?_;simp only[go_sem,za,e28,e29,e25];exact zu (zh _ _) hk
 have e28:(n.kind==28)=false:=by simp[c28]
 rw[if_neg (fun h=>c28 h.1)] at hr;by_cases c29:n.kind=29
 ·have e29:(n.kind==29)=true:=by simp[c29]
  cases hm:qa n with
  | true =>
   rw[if_pos ⟨c29,hm⟩] at hr;have h1:0<n.kids.length:=by
    unfold qa at hm;simp only[c29] at hm;simp at hm;omega
   simp only[go_sem,za,e28,e29];refine XB hm ?_;simp only[go_sem,za,e28,e29];refine yi (Wp d) hd hf h1 (w:=[108,101,116,32,114,101,99]) rfl hr hl ?_;simp only[go_sem];exact zu (zh _ _) hk
  | false =>
   rw[if_neg (by rw[hm];simp),if_pos h25] at hr;subst hr;simp only[go_sem,za,e28,e29];refine XB hm ?_;simp only[go_sem,za,e28,e29,e25];exact zu (zh _ _) hk
 have e29:(n.kind==29)=false:=by simp[c29]
 rw[if_neg (fun h=>c29 h.1),if_pos h25] at hr;subst hr;simp only[go_sem,za,e28,e29,e25];exact zu (zh _ _) hk
theorem oE{d:Nat}{n:Nd}(hd:Dep (d+1) n)(hf:Fit n){r:Tx}(hr:ZU d n=r)(hl:r.length≤140737488355328)(hk:K (.sc (.string (ba r))) st):ACalls prog 27 [zq n] K st:=by
 by_cases h:n.kind=25
 ·exact fF h hd hf hr hl hk
 ·exact tF h hd hf hr hl hk
theorem CC{d:Nat}{n:Nd}(hd:Dep (d+1) n)(hf:Fit n){r:Tx}(hr:ZU d n=r)(hl:r.length≤140737488355328)(hk:K (.sc (.string (ba r))) st) :
  ACalls prog 27 [.agg [.sc (.int .i64 n.kind),.sc (.string (ba n.text)),.sc (.int .i64 n.num),.sc (.int .i64 n.pos),.slice .imm 1 (n.names.map z8),.slice .imm 6 (n.kids.map zq)]] K st:=by
 have:=oE hd hf hr hl hk;rw[qR] at this;exact this
end Go.Proofs
