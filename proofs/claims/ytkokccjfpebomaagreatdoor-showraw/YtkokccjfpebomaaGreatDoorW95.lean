/- The document's Text. -/
import Derived.Test.YtkokccjfpebomaaGreatDoorR1
set_option linter.all false
set_option maxHeartbeats 4000000
set_option maxRecDepth 8000
namespace Go.AL
theorem QX{n:Nd}(h:GE n):qg n=true:=by
 cases h with
 | mk n hc hk =>
 unfold qg;rcases hk with h | h | h | h | h | h | h | ⟨h,g⟩ | ⟨h,g⟩ | ⟨h,g⟩ | ⟨h,g⟩ | ⟨h,g⟩
 case _ | _ | _ | _ | _ | _ | _=>simp[h]
 ·simpa[h] using g
 ·rcases h with h | h | h | h | h | h <;> simpa[h] using g
 ·simpa[h] using g
 ·simpa[h] using g
 ·rcases h with h | h | h | h | h | h | h | h <;> simp[h]
theorem Co{n:Nd}(h:GE n)(hk:qX n.kind≠[]):n.text=[]:=by
 cases h with
 | mk n hc h =>
 rcases h with h | h | h | h | h | h | h | ⟨h,g⟩ | ⟨h,g⟩ | ⟨h,g⟩ | ⟨h,g⟩ | ⟨h,g⟩
 case _ | _ | _ | _ | _ | _ | _=>exact absurd (by rw[h];decide) hk
 ·exact absurd (by rw[h];decide) hk
 ·rcases h with h | h | h | h | h | h <;> exact absurd (by rw[h];decide) hk
 ·exact absurd (by rw[h];decide) hk
 ·exact absurd (by rw[h];decide) hk
 ·exact g
theorem bh{n:Nd}(h:GE n)(hk:qX n.kind=[]):n.kind=1∨n.kind=2∨n.kind=3∨n.kind=4∨n.kind=5∨n.kind=24∨n.kind=19∨n.kind=6∨n.kind=7∨n.kind=8∨n.kind=9∨n.kind=10∨n.kind=11∨n.kind=12∨n.kind=13∨n.kind=14:=by
 cases h with
 | mk n hc h =>
 rcases h with h | h | h | h | h | h | h | ⟨h,g⟩ | ⟨h,g⟩ | ⟨h,g⟩ | ⟨h,g⟩ | ⟨h,g⟩
 case _ | _ | _ | _ | _ | _ | _=>simp[h]
 ·simp[h]
 ·rcases h with h | h | h | h | h | h <;> simp[h]
 ·simp[h]
 ·simp[h]
 ·rcases h with h | h | h | h | h | h | h | h <;> (rw[h] at hk;exact absurd hk (by decide))
end Go.AL
namespace Go.Proofs
open Go Go.AL Tryz
theorem lS:(⟨#[]⟩:ByteArray)=ba []:=rfl
theorem X6{K:SV→St→Prop}{st:St}{a b:Tx}(h:a=b)(hk:K (.sc (.string (ba b))) st):K (.sc (.string (ba a))) st:=h▸hk
theorem Nh{d:Nat}(hT:RtC d){n:Nd}(hg:GN n)(hkd:n.kind=3)(hd:Dep (d+1) n)(hf:Fit n){lo:Int}{r:Tx}(hr:qC (zo d) n lo=r)(hl:r.length≤140737488355328){K:SV→St→Prop}{st:St}(hk:K (.sc (.string (ba r))) st):ACalls prog 52 [zq n,.sc (.int .i64 lo)] K st:=by
 refine zd [] func52 rfl results52 ntmps52 ?_;have hky:qX n.kind=[]:=by rw[hkd];decide
 have hm:=QX hg.1;rw[qw _ _ _ hm hky] at hr;simp only[hkd,Int.reduceEq,if_true,if_false,or_false,false_or,or_true,true_or] at hr;have D:∀ j:Int,(n.kind==j)=((3:Int)==j):=fun j=>by rw[hkd]
 have hh:=hf.kids.2.1;simp -implicitDefEqProofs (maxSteps:=3000000) only[go_sem,za];refine Z2 hky ?_;simp -implicitDefEqProofs (maxSteps:=3000000) only[go_sem,za,D,Int.reduceBEq,q8];subst hr;exact zy (zi _ _) hk
theorem il{d:Nat}(hT:RtC d){n:Nd}(hg:GN n)(hkd:n.kind=24)(hd:Dep (d+1) n)(hf:Fit n){lo:Int}{r:Tx}(hr:qC (zo d) n lo=r)(hl:r.length≤140737488355328){K:SV→St→Prop}{st:St}(hk:K (.sc (.string (ba r))) st):ACalls prog 52 [zq n,.sc (.int .i64 lo)] K st:=by
 refine zd [] func52 rfl results52 ntmps52 ?_;have hky:qX n.kind=[]:=by rw[hkd];decide
 have hm:=QX hg.1;rw[qw _ _ _ hm hky] at hr;simp only[hkd,Int.reduceEq,if_true,if_false,or_false,false_or,or_true,true_or] at hr;have D:∀ j:Int,(n.kind==j)=((24:Int)==j):=fun j=>by rw[hkd]
 have hh:=hf.kids.2.1;simp -implicitDefEqProofs (maxSteps:=3000000) only[go_sem,za];refine Z2 hky ?_;simp -implicitDefEqProofs (maxSteps:=3000000) only[go_sem,za,D,Int.reduceBEq,q8];subst hr;exact zy (zi _ _) hk
theorem Au{d:Nat}(hT:RtC d){n:Nd}(hg:GN n)(hkd:n.kind=19)(hd:Dep (d+1) n)(hf:Fit n){lo:Int}{r:Tx}(hr:qC (zo d) n lo=r)(hl:r.length≤140737488355328){K:SV→St→Prop}{st:St}(hk:K (.sc (.string (ba r))) st):ACalls prog 52 [zq n,.sc (.int .i64 lo)] K st:=by
 refine zd [] func52 rfl results52 ntmps52 ?_;have hky:qX n.kind=[]:=by rw[hkd];decide
 have hm:=QX hg.1;rw[qw _ _ _ hm hky] at hr;simp only[hkd,Int.reduceEq,if_true,if_false,or_false,false_or,or_true,true_or] at hr;have D:∀ j:Int,(n.kind==j)=((19:Int)==j):=fun j=>by rw[hkd]
 have hh:=hf.kids.2.1;simp -implicitDefEqProofs (maxSteps:=3000000) only[go_sem,za];refine Z2 hky ?_;simp -implicitDefEqProofs (maxSteps:=3000000) only[go_sem,za,D,Int.reduceBEq,q8];subst hr;exact zy (zi _ _) hk
theorem MG{d:Nat}(hT:RtC d){n:Nd}(hg:GN n)(hkd:n.kind=1)(hd:Dep (d+1) n)(hf:Fit n){lo:Int}{r:Tx}(hr:qC (zo d) n lo=r)(hl:r.length≤140737488355328){K:SV→St→Prop}{st:St}(hk:K (.sc (.string (ba r))) st):ACalls prog 52 [zq n,.sc (.int .i64 lo)] K st:=by
 refine zd [] func52 rfl results52 ntmps52 ?_;have hky:qX n.kind=[]:=by rw[hkd];decide
 have hm:=QX hg.1;rw[qw _ _ _ hm hky] at hr;simp only[hkd,Int.reduceEq,if_true,if_false,or_false,false_or,or_true,true_or] at hr;have D:∀ j:Int,(n.kind==j)=((1:Int)==j):=fun j=>by rw[hkd]
 have hh:=hf.kids.2.1;simp -implicitDefEqProofs (maxSteps:=3000000) only[go_sem,za];refine Z2 hky ?_;simp -implicitDefEqProofs (maxSteps:=3000000) only[go_sem,za,D,Int.reduceBEq,q8];refine oY hg.2.num ?_;simp only[go_sem];subst hr;exact zy (zi _ _) hk
theorem Nk{d:Nat}(hT:RtC d){n:Nd}(hg:GN n)(hkd:n.kind=2)(hd:Dep (d+1) n)(hf:Fit n){lo:Int}{r:Tx}(hr:qC (zo d) n lo=r)(hl:r.length≤140737488355328){K:SV→St→Prop}{st:St}(hk:K (.sc (.string (ba r))) st):ACalls prog 52 [zq n,.sc (.int .i64 lo)] K st:=by
 refine zd [] func52 rfl results52 ntmps52 ?_;have hky:qX n.kind=[]:=by rw[hkd];decide
 have hm:=QX hg.1;rw[qw _ _ _ hm hky] at hr;simp only[hkd,Int.reduceEq,if_true,if_false,or_false,false_or,or_true,true_or] at hr;have D:∀ j:Int,(n.kind==j)=((2:Int)==j):=fun j=>by rw[hkd]
 have hh:=hf.kids.2.1;simp -implicitDefEqProofs (maxSteps:=3000000) only[go_sem,za];refine Z2 hky ?_;simp -implicitDefEqProofs (maxSteps:=3000000) only[go_sem,za,D,Int.reduceBEq,q8];refine ft hf.kids.2.2.2 ?_;simp only[go_sem];subst hr;exact zy (zi _ _) hk
theorem Ow{d:Nat}(hT:RtC d){n:Nd}(hg:GN n)(hkd:n.kind=6)(hd:Dep (d+1) n)(hf:Fit n){lo:Int}{r:Tx}(hr:qC (zo d) n lo=r)(hl:r.length≤140737488355328){K:SV→St→Prop}{st:St}(hk:K (.sc (.string (ba r))) st):ACalls prog 52 [zq n,.sc (.int .i64 lo)] K st:=by
 refine zd [] func52 rfl results52 ntmps52 ?_;have hky:qX n.kind=[]:=by rw[hkd];decide
 have hm:=QX hg.1;rw[qw _ _ _ hm hky] at hr;simp only[hkd,Int.reduceEq,if_true,if_false,or_false,false_or,or_true,true_or] at hr;have D:∀ j:Int,(n.kind==j)=((6:Int)==j):=fun j=>by rw[hkd]
 have hh:=hf.kids.2.1;unfold qg at hm;simp only[hkd,Int.reduceEq,if_true,if_false,or_false,false_or,or_true,true_or,decide_eq_true_eq] at hm;have h0:0<n.kids.length:=by omega
 have g0:=qH h0;have hl1:=hl;rw[←hr,ZU] at hl1;try simp only[xlC,xlN] at hl1
 simp -implicitDefEqProofs (maxSteps:=3000000) only[go_sem,za];refine Z2 hky ?_;simp -implicitDefEqProofs (maxSteps:=3000000) only[go_sem,za,D,Int.reduceBEq,q8];refine zC [] mixed rfl ?_;try simp only[go_sem,za,xlM,Int.reduceToNat,g0,ZY,zP]
 repeat refine Xs ?_
 rw[zt];refine⟨.sc (.string (ba (zj (zo d) (kid n 0) lo lo))),?_,?_⟩
 ·simp only[go_sem];refine Ep hT (Xa hg h0) (qf hd h0) (qe hf h0) rfl (by omega) ?_;exact zJ
 try simp only[go_sem,za,xlM,Int.reduceToNat,g0,ZY,zP]
 repeat refine Xs ?_
 exact zy (zi _ _) (X6 (by rw[←hr];simp only[qO,xaA,xcA,xnA,xaN]) hk)
theorem NZ{d:Nat}(hT:RtC d){n:Nd}(hg:GN n)(hkd:n.kind=7)(hd:Dep (d+1) n)(hf:Fit n){lo:Int}{r:Tx}(hr:qC (zo d) n lo=r)(hl:r.length≤140737488355328){K:SV→St→Prop}{st:St}(hk:K (.sc (.string (ba r))) st):ACalls prog 52 [zq n,.sc (.int .i64 lo)] K st:=by
 refine zd [] func52 rfl results52 ntmps52 ?_;have hky:qX n.kind=[]:=by rw[hkd];decide
 have hm:=QX hg.1;rw[qw _ _ _ hm hky] at hr;simp only[hkd,Int.reduceEq,if_true,if_false,or_false,false_or,or_true,true_or] at hr;have D:∀ j:Int,(n.kind==j)=((7:Int)==j):=fun j=>by rw[hkd]
 have hh:=hf.kids.2.1;unfold qg at hm;simp only[hkd,Int.reduceEq,if_true,if_false,or_false,false_or,or_true,true_or,decide_eq_true_eq] at hm;have h0:0<n.kids.length:=by omega
 have g0:=qH h0;have h1:1<n.kids.length:=by omega
 have g1:=qH h1;have hl1:=hl;rw[←hr,Zf] at hl1;try simp only[xlC,xlN] at hl1
 simp -implicitDefEqProofs (maxSteps:=3000000) only[go_sem,za];refine Z2 hky ?_;simp -implicitDefEqProofs (maxSteps:=3000000) only[go_sem,za,D,Int.reduceBEq,q8];refine zC [] mixed rfl ?_;try simp only[go_sem,za,xlM,Int.reduceToNat,g0,g1,ZY,zP]
 repeat refine Xs ?_
 rw[zt];refine⟨.sc (.string (ba (zj (zo d) (kid n 0) 1 lo))),?_,?_⟩
 ·simp only[go_sem];refine Ep hT (Xa hg h0) (qf hd h0) (qe hf h0) rfl (by omega) ?_;exact zJ
 try simp only[go_sem,za,xlM,Int.reduceToNat,g0,g1,ZY,zP]
 repeat refine Xs ?_
 rw[zt];refine⟨.sc (.string (ba (zj (zo d) (kid n 1) 0 lo))),?_,?_⟩
 ·simp only[go_sem];refine Ep hT (Xa hg h1) (qf hd h1) (qe hf h1) rfl (by omega) ?_;exact zJ
 try simp only[go_sem,za,xlM,Int.reduceToNat,g0,g1,ZY,zP]
 repeat refine Xs ?_
 exact zy (zi _ _) (X6 (by rw[←hr];simp only[qO,xaA,xcA,xnA,xaN]) hk)
theorem Mq{d:Nat}(hT:RtC d){n:Nd}(hg:GN n)(hkd:n.kind=8)(hd:Dep (d+1) n)(hf:Fit n){lo:Int}{r:Tx}(hr:qC (zo d) n lo=r)(hl:r.length≤140737488355328){K:SV→St→Prop}{st:St}(hk:K (.sc (.string (ba r))) st):ACalls prog 52 [zq n,.sc (.int .i64 lo)] K st:=by
 refine zd [] func52 rfl results52 ntmps52 ?_;have hky:qX n.kind=[]:=by rw[hkd];decide
 have hm:=QX hg.1;rw[qw _ _ _ hm hky] at hr;simp only[hkd,Int.reduceEq,if_true,if_false,or_false,false_or,or_true,true_or] at hr;have D:∀ j:Int,(n.kind==j)=((8:Int)==j):=fun j=>by rw[hkd]
 have hh:=hf.kids.2.1;unfold qg at hm;simp only[hkd,Int.reduceEq,if_true,if_false,or_false,false_or,or_true,true_or,decide_eq_true_eq] at hm;have h0:0<n.kids.length:=by omega
 have g0:=qH h0;have h1:1<n.kids.length:=by omega
 have g1:=qH h1;have hl1:=hl;rw[←hr,Zc] at hl1;unfold Qm at hl1;rw[ZU] at hl1;try simp only[xlC,xlN] at hl1
 simp -implicitDefEqProofs (maxSteps:=3000000) only[go_sem,za];refine Z2 hky ?_;simp -implicitDefEqProofs (maxSteps:=3000000) only[go_sem,za,D,Int.reduceBEq,q8];refine zC [] mixed rfl ?_;try simp only[go_sem,za,xlM,Int.reduceToNat,g0,g1,ZY,zP]
 repeat refine Xs ?_
 rw[zt];refine⟨.sc (.string (ba (zj (zo d) (kid n 0) lo lo))),?_,?_⟩
 ·simp only[go_sem];refine Ep hT (Xa hg h0) (qf hd h0) (qe hf h0) rfl (by omega) ?_;exact zJ
 try simp only[go_sem,za,xlM,Int.reduceToNat,g0,g1,ZY,zP]
 repeat refine Xs ?_
 rw[zt];refine⟨.sc (.string (ba (zj (zo d) (kid n 1) lo lo))),?_,?_⟩
 ·simp only[go_sem];refine Ep hT (Xa hg h1) (qf hd h1) (qe hf h1) rfl (by omega) ?_;exact zJ
 try simp only[go_sem,za,xlM,Int.reduceToNat,g0,g1,ZY,zP]
 repeat refine Xs ?_
 exact zy (zi _ _) (X6 (by rw[←hr];simp only[Qm,qO,xaA,xcA,xnA,xaN]) hk)
theorem OC{d:Nat}(hT:RtC d){n:Nd}(hg:GN n)(hkd:n.kind=9)(hd:Dep (d+1) n)(hf:Fit n){lo:Int}{r:Tx}(hr:qC (zo d) n lo=r)(hl:r.length≤140737488355328){K:SV→St→Prop}{st:St}(hk:K (.sc (.string (ba r))) st):ACalls prog 52 [zq n,.sc (.int .i64 lo)] K st:=by
 refine zd [] func52 rfl results52 ntmps52 ?_;have hky:qX n.kind=[]:=by rw[hkd];decide
 have hm:=QX hg.1;rw[qw _ _ _ hm hky] at hr;simp only[hkd,Int.reduceEq,if_true,if_false,or_false,false_or,or_true,true_or] at hr;have D:∀ j:Int,(n.kind==j)=((9:Int)==j):=fun j=>by rw[hkd]
 have hh:=hf.kids.2.1;unfold qg at hm;simp only[hkd,Int.reduceEq,if_true,if_false,or_false,false_or,or_true,true_or,decide_eq_true_eq] at hm;have h0:0<n.kids.length:=by omega
 have g0:=qH h0;have h1:1<n.kids.length:=by omega
 have g1:=qH h1;have hl1:=hl;rw[←hr,Zc] at hl1;unfold Qm at hl1;rw[ZU] at hl1;try simp only[xlC,xlN] at hl1
 simp -implicitDefEqProofs (maxSteps:=3000000) only[go_sem,za];refine Z2 hky ?_;simp -implicitDefEqProofs (maxSteps:=3000000) only[go_sem,za,D,Int.reduceBEq,q8];refine zC [] mixed rfl ?_;try simp only[go_sem,za,xlM,Int.reduceToNat,g0,g1,ZY,zP]
 repeat refine Xs ?_
 rw[zt];refine⟨.sc (.string (ba (zj (zo d) (kid n 0) lo lo))),?_,?_⟩
 ·simp only[go_sem];refine Ep hT (Xa hg h0) (qf hd h0) (qe hf h0) rfl (by omega) ?_;exact zJ
 try simp only[go_sem,za,xlM,Int.reduceToNat,g0,g1,ZY,zP]
 repeat refine Xs ?_
 rw[zt];refine⟨.sc (.string (ba (zj (zo d) (kid n 1) lo lo))),?_,?_⟩
 ·simp only[go_sem];refine Ep hT (Xa hg h1) (qf hd h1) (qe hf h1) rfl (by omega) ?_;exact zJ
 try simp only[go_sem,za,xlM,Int.reduceToNat,g0,g1,ZY,zP]
 repeat refine Xs ?_
 exact zy (zi _ _) (X6 (by rw[←hr];simp only[Qm,qO,xaA,xcA,xnA,xaN]) hk)
theorem sM{d:Nat}(hT:RtC d){n:Nd}(hg:GN n)(hkd:n.kind=10)(hd:Dep (d+1) n)(hf:Fit n){lo:Int}{r:Tx}(hr:qC (zo d) n lo=r)(hl:r.length≤140737488355328){K:SV→St→Prop}{st:St}(hk:K (.sc (.string (ba r))) st):ACalls prog 52 [zq n,.sc (.int .i64 lo)] K st:=by
 refine zd [] func52 rfl results52 ntmps52 ?_;have hky:qX n.kind=[]:=by rw[hkd];decide
 have hm:=QX hg.1;rw[qw _ _ _ hm hky] at hr;simp only[hkd,Int.reduceEq,if_true,if_false,or_false,false_or,or_true,true_or] at hr;have D:∀ j:Int,(n.kind==j)=((10:Int)==j):=fun j=>by rw[hkd]
 have hh:=hf.kids.2.1;unfold qg at hm;simp only[hkd,Int.reduceEq,if_true,if_false,or_false,false_or,or_true,true_or,decide_eq_true_eq] at hm;have h0:0<n.kids.length:=by omega
 have g0:=qH h0;have h1:1<n.kids.length:=by omega
 have g1:=qH h1;have h2:2<n.kids.length:=by omega
 have g2:=qH h2;have hl1:=hl;rw[←hr,G7] at hl1;try simp only[xlC,xlN] at hl1
 simp -implicitDefEqProofs (maxSteps:=3000000) only[go_sem,za];refine Z2 hky ?_;simp -implicitDefEqProofs (maxSteps:=3000000) only[go_sem,za,D,Int.reduceBEq,q8];refine zC [] mixed rfl ?_;try simp only[go_sem,za,xlM,Int.reduceToNat,g0,g1,g2,ZY,zP]
 repeat refine Xs ?_
 rw[zt];refine⟨.sc (.string (ba (zj (zo d) (kid n 0) lo lo))),?_,?_⟩
 ·simp only[go_sem];refine Ep hT (Xa hg h0) (qf hd h0) (qe hf h0) rfl (by omega) ?_;exact zJ
 try simp only[go_sem,za,xlM,Int.reduceToNat,g0,g1,g2,ZY,zP]
 repeat refine Xs ?_
 rw[zt];refine⟨.sc (.string (ba (zj (zo d) (kid n 1) lo lo))),?_,?_⟩
 ·simp only[go_sem];refine Ep hT (Xa hg h1) (qf hd h1) (qe hf h1) rfl (by omega) ?_;exact zJ
 try simp only[go_sem,za,xlM,Int.reduceToNat,g0,g1,g2,ZY,zP]
 repeat refine Xs ?_
 rw[zt];refine⟨.sc (.string (ba (zj (zo d) (kid n 2) lo lo))),?_,?_⟩
 ·simp only[go_sem];refine Ep hT (Xa hg h2) (qf hd h2) (qe hf h2) rfl (by omega) ?_;exact zJ
 try simp only[go_sem,za,xlM,Int.reduceToNat,g0,g1,g2,ZY,zP]
 repeat refine Xs ?_
 exact zy (zi _ _) (X6 (by rw[←hr];simp only[qO,xaA,xcA,xnA,xaN]) hk)
theorem A2{d:Nat}(hT:RtC d){n:Nd}(hg:GN n)(hkd:n.kind=12)(hd:Dep (d+1) n)(hf:Fit n){lo:Int}{r:Tx}(hr:qC (zo d) n lo=r)(hl:r.length≤140737488355328){K:SV→St→Prop}{st:St}(hk:K (.sc (.string (ba r))) st):ACalls prog 52 [zq n,.sc (.int .i64 lo)] K st:=by
 refine zd [] func52 rfl results52 ntmps52 ?_;have hky:qX n.kind=[]:=by rw[hkd];decide
 have hm:=QX hg.1;rw[qw _ _ _ hm hky] at hr;simp only[hkd,Int.reduceEq,if_true,if_false,or_false,false_or,or_true,true_or] at hr;have D:∀ j:Int,(n.kind==j)=((12:Int)==j):=fun j=>by rw[hkd]
 have hh:=hf.kids.2.1;unfold qg at hm;simp only[hkd,Int.reduceEq,if_true,if_false,or_false,false_or,or_true,true_or,decide_eq_true_eq] at hm;have h0:0<n.kids.length:=by omega
 have g0:=qH h0;have h1:1<n.kids.length:=by omega
 have g1:=qH h1;have hl1:=hl;rw[←hr,Gv] at hl1;try simp only[xlC,xlN] at hl1
 simp -implicitDefEqProofs (maxSteps:=3000000) only[go_sem,za];refine Z2 hky ?_;simp -implicitDefEqProofs (maxSteps:=3000000) only[go_sem,za,D,Int.reduceBEq,q8];refine zC [] mixed rfl ?_;try simp only[go_sem,za,xlM,Int.reduceToNat,g0,g1,ZY,zP]
 repeat refine Xs ?_
 rw[zt];refine⟨.sc (.string (ba (zj (zo d) (kid n 0) 7 7))),?_,?_⟩
 ·simp only[go_sem];refine Ep hT (Xa hg h0) (qf hd h0) (qe hf h0) rfl (by omega) ?_;exact zJ
 try simp only[go_sem,za,xlM,Int.reduceToNat,g0,g1,ZY,zP]
 repeat refine Xs ?_
 rw[zt];refine⟨.sc (.string (ba (zj (zo d) (kid n 1) 7 7))),?_,?_⟩
 ·simp only[go_sem];refine Ep hT (Xa hg h1) (qf hd h1) (qe hf h1) rfl (by omega) ?_;exact zJ
 try simp only[go_sem,za,xlM,Int.reduceToNat,g0,g1,ZY,zP]
 repeat refine Xs ?_
 exact zy (zi _ _) (X6 (by rw[←hr];simp only[qO,xaA,xcA,xnA,xaN]) hk)
theorem A'{d:Nat}(hT:RtC d){n:Nd}(hg:GN n)(hkd:n.kind=14)(hd:Dep (d+1) n)(hf:Fit n){lo:Int}{r:Tx}(hr:qC (zo d) n lo=r)(hl:r.length≤140737488355328){K:SV→St→Prop}{st:St}(hk:K (.sc (.string (ba r))) st):ACalls prog 52 [zq n,.sc (.int .i64 lo)] K st:=by
 refine zd [] func52 rfl results52 ntmps52 ?_;have hky:qX n.kind=[]:=by rw[hkd];decide
 have hm:=QX hg.1;rw[qw _ _ _ hm hky] at hr;simp only[hkd,Int.reduceEq,if_true,if_false,or_false,false_or,or_true,true_or] at hr;have D:∀ j:Int,(n.kind==j)=((14:Int)==j):=fun j=>by rw[hkd]
 have hh:=hf.kids.2.1;unfold qg at hm;simp only[hkd,Int.reduceEq,if_true,if_false,or_false,false_or,or_true,true_or,decide_eq_true_eq] at hm;have h0:0<n.kids.length:=by omega
 have g0:=qH h0;have h1:1<n.kids.length:=by omega
 have g1:=qH h1;have hl1:=hl;rw[←hr,Zc] at hl1;try simp only[xlC,xlN] at hl1
 simp -implicitDefEqProofs (maxSteps:=3000000) only[go_sem,za];refine Z2 hky ?_;simp -implicitDefEqProofs (maxSteps:=3000000) only[go_sem,za,D,Int.reduceBEq,q8];refine zC [] mixed rfl ?_;try simp only[go_sem,za,xlM,Int.reduceToNat,g0,g1,ZY,zP]
 repeat refine Xs ?_
 rw[zt];refine⟨.sc (.string (ba (zj (zo d) (kid n 0) 5 lo))),?_,?_⟩
 ·simp only[go_sem];refine Ep hT (Xa hg h0) (qf hd h0) (qe hf h0) rfl (by omega) ?_;exact zJ
 try simp only[go_sem,za,xlM,Int.reduceToNat,g0,g1,ZY,zP]
 repeat refine Xs ?_
 rw[zt];refine⟨.sc (.string (ba (zj (zo d) (kid n 1) 7 7))),?_,?_⟩
 ·simp only[go_sem];refine Ep hT (Xa hg h1) (qf hd h1) (qe hf h1) rfl (by omega) ?_;exact zJ
 try simp only[go_sem,za,xlM,Int.reduceToNat,g0,g1,ZY,zP]
 repeat refine Xs ?_
 exact zy (zi _ _) (X6 (by rw[←hr];simp only[qO,xaA,xcA,xnA,xaN]) hk)
theorem NS{d:Nat}(hT:RtC d){n:Nd}(hg:GN n)(hkd:n.kind=4)(hd:Dep (d+1) n)(hf:Fit n){lo:Int}{r:Tx}(hr:qC (zo d) n lo=r)(hl:r.length≤140737488355328){K:SV→St→Prop}{st:St}(hk:K (.sc (.string (ba r))) st):ACalls prog 52 [zq n,.sc (.int .i64 lo)] K st:=by
 refine zd [] func52 rfl results52 ntmps52 ?_;have hky:qX n.kind=[]:=by rw[hkd];decide
 have hm:=QX hg.1;rw[qw _ _ _ hm hky] at hr;simp only[hkd,Int.reduceEq,if_true,if_false,or_false,false_or,or_true,true_or] at hr;have D:∀ j:Int,(n.kind==j)=((4:Int)==j):=fun j=>by rw[hkd]
 have hh:=hf.kids.2.1;simp -implicitDefEqProofs (maxSteps:=3000000) only[go_sem,za];refine Z2 hky ?_;simp -implicitDefEqProofs (maxSteps:=3000000) only[go_sem,xlM,lS,zP,xnA,za,D,Int.reduceBEq,q8];have ht4:=hf.kids.2.2.2;repeat refine Xs ?_
 refine zx [] (fun k env s=>∃ (i:Nat) (v:Tx),k+i=n.kids.length∧X2 (zo d) lo v (n.kids.drop i)=r∧env=[.any,.sc (.int .i64 lo),.any,.any,.any,.slice .imm 6 (n.kids.map zq),.any,.sc (.string (ba v)),.sc (.int .i64 i),.any,.any,.any,.any,.any,.any,.any,.any,.any,.any,.any,.any,.any,.any,.any,.any,.any,.any,.any,.any,.any,.any,.any,.any,.any,.any,.any,.any,.any,.any,.any,.any,.any,.any,.any,.any,.any,.any,.any,.any,.any,.any,.any,.any,.any,.any,.any,.any,.any,.any,.any,.any,.any,.any,.any,.any,.any,.any,.any,.any,.any,.any,.any,.any,.any,.any,.any,.any,.any,.any,.any,.any,.any,.any,.any,.any,.any,.any,.any,.any,.any,.any,.any,.any,.any,.any,.any,.any,.any,.any,.any,.any,.any,.any,.any,.any,.any,.any,.any,.any,.any,.any,.any,.any,.any,.any,.any,.any,.any,.any,.any,.any,.any,.any,.any,.any,.any,.any,.any,.any,.any,.any,.any,.any,.any,.any,.any,.any,.any,.any,.any,.any,.any,.any,.any,.any,.any,.any,.any,.any,.any,.any,.any,.any,.any,.any,.any,.any,.any,.any,.any,.any,.any,.any,.any,.any,.any,.any,.any,.any,.any,.any,.any,.any,.any,.any,.any,.any,.any,.any,.any,.any,.any,.any,.any,.any,.any,.any,.any,.any,.any,.any,.any,.any,.any,.any,.any,.any,.any,.any,.any,.any,.any,.any,.any,.any,.any,.any,.any,.any,.any,.any,.any,.any,.any,.any,.any,.any,.any,.any,.any,.any,.any,.any,.any,.any,.any,.any,.any,.any,.any,.any,.any,.any,.any,.any,.any,.any,.any,.any,.any,.any,.any,.any,.any,.any,.any,.any,.any,.any,.any,.any,.any]∧s=st) (n:=n.kids.length) ?_ ⟨0,n.text,by omega,hr,rfl,rfl⟩ ?_
 ·exact qu
 rintro k env s ⟨i,v,hi,hv,rfl,rfl⟩;by_cases hlt:i<n.kids.length
 ·have c2:decide ((i:Int)<(n.kids.length:Int))=true:=by simp;omega
  have w1:IntKind.i64.wrap ((i:Int)+1)=((i+1:Nat):Int):=by rw[IntWalk.i64_in _ (by omega)];rfl
  have g1:=q7 hlt;rw[List.drop_eq_getElem_cons hlt] at hv;have hv:X2 (zo d) lo (qO [v,zj (zo d) n.kids[i] 0 lo]) (n.kids.drop (i+1))=r:=hv;have hle:=HO (zo d) lo (n.kids.drop (i+1)) (qO [v,zj (zo d) n.kids[i] 0 lo]);rw[hv,Zf] at hle;simp -implicitDefEqProofs (maxSteps:=3000000) only[go_sem,c2,w1,xlM,g1,za,yb,zP];repeat refine Xs ?_
  refine Ep hT (hg.kids _ (List.getElem_mem hlt)) (hd.kids _ (List.getElem_mem hlt)) (hf.kids.1 _ (List.getElem_mem hlt)) rfl (by omega) ?_;simp -implicitDefEqProofs (maxSteps:=3000000) only[go_sem,w1,yb,zP];repeat refine Xs ?_
  refine⟨k-1,_,by omega,?_,i+1,_,by omega,hv,rfl⟩;exact qu
 ·have c2:decide ((i:Int)<(n.kids.length:Int))=false:=by simp;omega
  have hv:v=r:=by rw[←hv,List.drop_of_length_le (by omega)];rfl
  subst hv;simp -implicitDefEqProofs (maxSteps:=3000000) only[go_sem,c2,xlM];exact zy (zi _ _) hk
theorem NY{d:Nat}(hT:RtC d){n:Nd}(hg:GN n)(hkd:n.kind=5)(hd:Dep (d+1) n)(hf:Fit n){lo:Int}{r:Tx}(hr:qC (zo d) n lo=r)(hl:r.length≤140737488355328){K:SV→St→Prop}{st:St}(hk:K (.sc (.string (ba r))) st):ACalls prog 52 [zq n,.sc (.int .i64 lo)] K st:=by
 refine zd [] func52 rfl results52 ntmps52 ?_;have hky:qX n.kind=[]:=by rw[hkd];decide
 have hm:=QX hg.1;rw[qw _ _ _ hm hky] at hr;simp only[hkd,Int.reduceEq,if_true,if_false,or_false,false_or,or_true,true_or] at hr;have D:∀ j:Int,(n.kind==j)=((5:Int)==j):=fun j=>by rw[hkd]
 have hh:=hf.kids.2.1;simp -implicitDefEqProofs (maxSteps:=3000000) only[go_sem,za];refine Z2 hky ?_;simp -implicitDefEqProofs (maxSteps:=3000000) only[go_sem,xlM,lS,zP,xnA,za,D,Int.reduceBEq,q8];have ht4:=hf.kids.2.2.2;repeat refine Xs ?_
 refine zx [] (fun k env s=>∃ (i:Nat) (v:Tx),k+i=n.kids.length∧X2 (zo d) lo v (n.kids.drop i)=r∧env=[.any,.sc (.int .i64 lo),.any,.any,.any,.slice .imm 6 (n.kids.map zq),.any,.sc (.string (ba v)),.sc (.int .i64 i),.any,.any,.any,.any,.any,.any,.any,.any,.any,.any,.any,.any,.any,.any,.any,.any,.any,.any,.any,.any,.any,.any,.any,.any,.any,.any,.any,.any,.any,.any,.any,.any,.any,.any,.any,.any,.any,.any,.any,.any,.any,.any,.any,.any,.any,.any,.any,.any,.any,.any,.any,.any,.any,.any,.any,.any,.any,.any,.any,.any,.any,.any,.any,.any,.any,.any,.any,.any,.any,.any,.any,.any,.any,.any,.any,.any,.any,.any,.any,.any,.any,.any,.any,.any,.any,.any,.any,.any,.any,.any,.any,.any,.any,.any,.any,.any,.any,.any,.any,.any,.any,.any,.any,.any,.any,.any,.any,.any,.any,.any,.any,.any,.any,.any,.any,.any,.any,.any,.any,.any,.any,.any,.any,.any,.any,.any,.any,.any,.any,.any,.any,.any,.any,.any,.any,.any,.any,.any,.any,.any,.any,.any,.any,.any,.any,.any,.any,.any,.any,.any,.any,.any,.any,.any,.any,.any,.any,.any,.any,.any,.any,.any,.any,.any,.any,.any,.any,.any,.any,.any,.any,.any,.any,.any,.any,.any,.any,.any,.any,.any,.any,.any,.any,.any,.any,.any,.any,.any,.any,.any,.any,.any,.any,.any,.any,.any,.any,.any,.any,.any,.any,.any,.any,.any,.any,.any,.any,.any,.any,.any,.any,.any,.any,.any,.any,.any,.any,.any,.any,.any,.any,.any,.any,.any,.any,.any,.any,.any,.any,.any,.any,.any,.any,.any,.any,.any,.any,.any,.any,.any,.any,.any,.any]∧s=st) (n:=n.kids.length) ?_ ⟨0,n.text,by omega,hr,rfl,rfl⟩ ?_
 ·exact qu
 rintro k env s ⟨i,v,hi,hv,rfl,rfl⟩;by_cases hlt:i<n.kids.length
 ·have c2:decide ((i:Int)<(n.kids.length:Int))=true:=by simp;omega
  have w1:IntKind.i64.wrap ((i:Int)+1)=((i+1:Nat):Int):=by rw[IntWalk.i64_in _ (by omega)];rfl
  have g1:=q7 hlt;rw[List.drop_eq_getElem_cons hlt] at hv;have hv:X2 (zo d) lo (qO [v,zj (zo d) n.kids[i] 0 lo]) (n.kids.drop (i+1))=r:=hv;have hle:=HO (zo d) lo (n.kids.drop (i+1)) (qO [v,zj (zo d) n.kids[i] 0 lo]);rw[hv,Zf] at hle;simp -implicitDefEqProofs (maxSteps:=3000000) only[go_sem,c2,w1,xlM,g1,za,yb,zP];repeat refine Xs ?_
  refine Ep hT (hg.kids _ (List.getElem_mem hlt)) (hd.kids _ (List.getElem_mem hlt)) (hf.kids.1 _ (List.getElem_mem hlt)) rfl (by omega) ?_;simp -implicitDefEqProofs (maxSteps:=3000000) only[go_sem,w1,yb,zP];repeat refine Xs ?_
  refine⟨k-1,_,by omega,?_,i+1,_,by omega,hv,rfl⟩;exact qu
 ·have c2:decide ((i:Int)<(n.kids.length:Int))=false:=by simp;omega
  have hv:v=r:=by rw[←hv,List.drop_of_length_le (by omega)];rfl
  subst hv;simp -implicitDefEqProofs (maxSteps:=3000000) only[go_sem,c2,xlM];exact zy (zi _ _) hk
theorem OM{d:Nat}(hT:RtC d){n:Nd}(hg:GN n)(hky:qX n.kind≠[])(hd:Dep (d+1) n)(hf:Fit n){lo:Int}{r:Tx}(hr:qC (zo d) n lo=r)(hl:r.length≤140737488355328){K:SV→St→Prop}{st:St}(hk:K (.sc (.string (ba r))) st):ACalls prog 52 [zq n,.sc (.int .i64 lo)] K st:=by
 refine zd [] func52 rfl results52 ntmps52 ?_;have hm:=QX hg.1;have ht:=Co hg.1 hky;have hh:=hf.kids.2.1;unfold qC at hr;rw[if_neg (by rw[hm];decide),if_pos hky] at hr;have e:(!(qX n.kind==[]))=true:=by simp[hky]
 have hkl:=ga n.kind;simp -implicitDefEqProofs (maxSteps:=3000000) only[go_sem,za];refine Z2 rfl ?_;simp -implicitDefEqProofs (maxSteps:=3000000) only[go_sem,xlM,lS,zP,xnA,za,e,QH,ht,xaN];have ht4:=hf.kids.2.2.2;repeat refine Xs ?_
 refine zx [] (fun k env s=>∃ (i:Nat) (v:Tx),k+i=n.kids.length∧X2 (zo d) lo v (n.kids.drop i)=r∧env=[.any,.sc (.int .i64 lo),.any,.any,.any,.slice .imm 6 (n.kids.map zq),.any,.sc (.string (ba v)),.sc (.int .i64 i),.any,.any,.any,.any,.any,.any,.any,.any,.any,.any,.any,.any,.any,.any,.any,.any,.any,.any,.any,.any,.any,.any,.any,.any,.any,.any,.any,.any,.any,.any,.any,.any,.any,.any,.any,.any,.any,.any,.any,.any,.any,.any,.any,.any,.any,.any,.any,.any,.any,.any,.any,.any,.any,.any,.any,.any,.any,.any,.any,.any,.any,.any,.any,.any,.any,.any,.any,.any,.any,.any,.any,.any,.any,.any,.any,.any,.any,.any,.any,.any,.any,.any,.any,.any,.any,.any,.any,.any,.any,.any,.any,.any,.any,.any,.any,.any,.any,.any,.any,.any,.any,.any,.any,.any,.any,.any,.any,.any,.any,.any,.any,.any,.any,.any,.any,.any,.any,.any,.any,.any,.any,.any,.any,.any,.any,.any,.any,.any,.any,.any,.any,.any,.any,.any,.any,.any,.any,.any,.any,.any,.any,.any,.any,.any,.any,.any,.any,.any,.any,.any,.any,.any,.any,.any,.any,.any,.any,.any,.any,.any,.any,.any,.any,.any,.any,.any,.any,.any,.any,.any,.any,.any,.any,.any,.any,.any,.any,.any,.any,.any,.any,.any,.any,.any,.any,.any,.any,.any,.any,.any,.any,.any,.any,.any,.any,.any,.any,.any,.any,.any,.any,.any,.any,.any,.any,.any,.any,.any,.any,.any,.any,.any,.any,.any,.any,.any,.any,.any,.any,.any,.any,.any,.any,.any,.any,.any,.any,.any,.any,.any,.any,.any,.any,.any,.any,.any,.any,.any,.any,.any,.any,.any,.any]∧s=st) (n:=n.kids.length) ?_ ⟨0,qX n.kind,by omega,hr,rfl,rfl⟩ ?_
 ·exact qu
 rintro k env s ⟨i,v,hi,hv,rfl,rfl⟩;by_cases hlt:i<n.kids.length
 ·have c2:decide ((i:Int)<(n.kids.length:Int))=true:=by simp;omega
  have w1:IntKind.i64.wrap ((i:Int)+1)=((i+1:Nat):Int):=by rw[IntWalk.i64_in _ (by omega)];rfl
  have g1:=q7 hlt;rw[List.drop_eq_getElem_cons hlt] at hv;have hv:X2 (zo d) lo (qO [v,zj (zo d) n.kids[i] 0 lo]) (n.kids.drop (i+1))=r:=hv;have hle:=HO (zo d) lo (n.kids.drop (i+1)) (qO [v,zj (zo d) n.kids[i] 0 lo]);rw[hv,Zf] at hle;simp -implicitDefEqProofs (maxSteps:=3000000) only[go_sem,c2,w1,xlM,g1,za,yb,zP];repeat refine Xs ?_
  refine Ep hT (hg.kids _ (List.getElem_mem hlt)) (hd.kids _ (List.getElem_mem hlt)) (hf.kids.1 _ (List.getElem_mem hlt)) rfl (by omega) ?_;simp -implicitDefEqProofs (maxSteps:=3000000) only[go_sem,w1,yb,zP];repeat refine Xs ?_
  refine⟨k-1,_,by omega,?_,i+1,_,by omega,hv,rfl⟩;exact qu
 ·have c2:decide ((i:Int)<(n.kids.length:Int))=false:=by simp;omega
  have hv:v=r:=by rw[←hv,List.drop_of_length_le (by omega)];rfl
  subst hv;simp -implicitDefEqProofs (maxSteps:=3000000) only[go_sem,c2,xlM];exact zy (zi _ _) hk
theorem A0{d:Nat}(hT:RtC d){n:Nd}(hg:GN n)(hkd:n.kind=13)(hd:Dep (d+1) n)(hf:Fit n){lo:Int}{r:Tx}(hr:qC (zo d) n lo=r)(hl:r.length≤140737488355328){K:SV→St→Prop}{st:St}(hk:K (.sc (.string (ba r))) st):ACalls prog 52 [zq n,.sc (.int .i64 lo)] K st:=by
 refine zd [] func52 rfl results52 ntmps52 ?_;have hky:qX n.kind=[]:=by rw[hkd];decide
 have hm:=QX hg.1;rw[qw _ _ _ hm hky] at hr;simp only[hkd,Int.reduceEq,if_true,if_false,or_false,false_or,or_true,true_or] at hr;have D:∀ j:Int,(n.kind==j)=((13:Int)==j):=fun j=>by rw[hkd]
 have hh:=hf.kids.2.1;unfold qg at hm;simp only[hkd,Int.reduceEq,if_true,if_false,or_false,false_or,or_true,true_or,decide_eq_true_eq] at hm;have h0:0<n.kids.length:=by omega
 have g0:=qH h0;have h1:1<n.kids.length:=by omega
 have g1:=qH h1;have hb:qZ n=ZV n.text:=by unfold qZ;simp only[hkd,Int.reduceEq,if_true,if_false,or_self]
 have hs:ZV n.text=5∨ZV n.text=4∨ZV n.text=3:=by
  unfold ZV;repeat' split
  all_goals simp
 rcases hs with hs | hs | hs
 ·rw[hs] at hb;have hr:qO [zj (zo d) (kid n 0) 4 lo,n.text,zj (zo d) (kid n 1) 4 lo]=r:=by rw[←hr];unfold fV;rw[hs];rfl
  have hl1:=hl;rw[←hr,Zc] at hl1;simp -implicitDefEqProofs (maxSteps:=3000000) only[go_sem,za];refine Z2 hky ?_;simp -implicitDefEqProofs (maxSteps:=3000000) only[go_sem,za,D,Int.reduceBEq,q8];refine Rn hb ?_;simp -implicitDefEqProofs (maxSteps:=3000000) only[go_sem,Int.reduceBEq,show IntKind.i64.wrap (5-1)=4 from rfl];refine zC [] mixed rfl ?_;try simp only[go_sem,za,xlM,Int.reduceToNat,g0,g1,ZY,zP]
  repeat refine Xs ?_
  rw[zt];refine⟨.sc (.string (ba (zj (zo d) (kid n 0) 4 lo))),?_,?_⟩
  ·simp only[go_sem];refine Ep hT (Xa hg h0) (qf hd h0) (qe hf h0) rfl (by omega) ?_;exact zJ
  try simp only[go_sem,za,xlM,Int.reduceToNat,g0,g1,ZY,zP]
  repeat refine Xs ?_
  rw[zt];refine⟨.sc (.string (ba (zj (zo d) (kid n 1) 4 lo))),?_,?_⟩
  ·simp only[go_sem];refine Ep hT (Xa hg h1) (qf hd h1) (qe hf h1) rfl (by omega) ?_;exact zJ
  try simp only[go_sem,za,xlM,Int.reduceToNat,g0,g1,ZY,zP]
  repeat refine Xs ?_
  exact zy (zi _ _) (X6 (by rw[←hr];simp only[qO,xaA,xcA,xnA,xaN]) hk)
 ·rw[hs] at hb;have hr:qO [zj (zo d) (kid n 0) 4 lo,n.text,zj (zo d) (kid n 1) 3 lo]=r:=by rw[←hr];unfold fV;rw[hs];rfl
  have hl1:=hl;rw[←hr,Zc] at hl1;simp -implicitDefEqProofs (maxSteps:=3000000) only[go_sem,za];refine Z2 hky ?_;simp -implicitDefEqProofs (maxSteps:=3000000) only[go_sem,za,D,Int.reduceBEq,q8];refine Rn hb ?_;simp -implicitDefEqProofs (maxSteps:=3000000) only[go_sem,Int.reduceBEq,show IntKind.i64.wrap (4-1)=3 from rfl];refine zC [] mixed rfl ?_;try simp only[go_sem,za,xlM,Int.reduceToNat,g0,g1,ZY,zP]
  repeat refine Xs ?_
  rw[zt];refine⟨.sc (.string (ba (zj (zo d) (kid n 0) 4 lo))),?_,?_⟩
  ·simp only[go_sem];refine Ep hT (Xa hg h0) (qf hd h0) (qe hf h0) rfl (by omega) ?_;exact zJ
  try simp only[go_sem,za,xlM,Int.reduceToNat,g0,g1,ZY,zP]
  repeat refine Xs ?_
  rw[zt];refine⟨.sc (.string (ba (zj (zo d) (kid n 1) 3 lo))),?_,?_⟩
  ·simp only[go_sem];refine Ep hT (Xa hg h1) (qf hd h1) (qe hf h1) rfl (by omega) ?_;exact zJ
  try simp only[go_sem,za,xlM,Int.reduceToNat,g0,g1,ZY,zP]
  repeat refine Xs ?_
  exact zy (zi _ _) (X6 (by rw[←hr];simp only[qO,xaA,xcA,xnA,xaN]) hk)
 ·rw[hs] at hb;have hr:qO [zj (zo d) (kid n 0) 3 lo,n.text,zj (zo d) (kid n 1) 2 lo]=r:=by rw[←hr];unfold fV;rw[hs];rfl
  have hl1:=hl;rw[←hr,Zc] at hl1;simp -implicitDefEqProofs (maxSteps:=3000000) only[go_sem,za];refine Z2 hky ?_;simp -implicitDefEqProofs (maxSteps:=3000000) only[go_sem,za,D,Int.reduceBEq,q8];refine Rn hb ?_;simp -implicitDefEqProofs (maxSteps:=3000000) only[go_sem,Int.reduceBEq,show IntKind.i64.wrap (3-1)=2 from rfl];refine zC [] mixed rfl ?_;try simp only[go_sem,za,xlM,Int.reduceToNat,g0,g1,ZY,zP]
  repeat refine Xs ?_
  rw[zt];refine⟨.sc (.string (ba (zj (zo d) (kid n 0) 3 lo))),?_,?_⟩
  ·simp only[go_sem];refine Ep hT (Xa hg h0) (qf hd h0) (qe hf h0) rfl (by omega) ?_;exact zJ
  try simp only[go_sem,za,xlM,Int.reduceToNat,g0,g1,ZY,zP]
  repeat refine Xs ?_
  rw[zt];refine⟨.sc (.string (ba (zj (zo d) (kid n 1) 2 lo))),?_,?_⟩
  ·simp only[go_sem];refine Ep hT (Xa hg h1) (qf hd h1) (qe hf h1) rfl (by omega) ?_;exact zJ
  try simp only[go_sem,za,xlM,Int.reduceToNat,g0,g1,ZY,zP]
  repeat refine Xs ?_
  exact zy (zi _ _) (X6 (by rw[←hr];simp only[qO,xaA,xcA,xnA,xaN]) hk)
theorem sP{d:Nat}(hT:RtC d){n:Nd}(hg:GN n)(hkd:n.kind=11)(hd:Dep (d+1) n)(hf:Fit n){lo:Int}{r:Tx}(hr:qC (zo d) n lo=r)(hl:r.length≤140737488355328){K:SV→St→Prop}{st:St}(hk:K (.sc (.string (ba r))) st):ACalls prog 52 [zq n,.sc (.int .i64 lo)] K st:=by
 refine zd [] func52 rfl results52 ntmps52 ?_;have hky:qX n.kind=[]:=by rw[hkd];decide
 have hm:=QX hg.1;rw[qw _ _ _ hm hky] at hr;simp only[hkd,Int.reduceEq,if_true,if_false,or_false,false_or,or_true,true_or] at hr;have D:∀ j:Int,(n.kind==j)=((11:Int)==j):=fun j=>by rw[hkd]
 have hh:=hf.kids.2.1;unfold qg at hm;simp only[hkd,Int.reduceEq,if_true,if_false,or_false,false_or,or_true,true_or,decide_eq_true_eq] at hm;have h0:0<n.kids.length:=by omega
 have g0:=qH h0;have hl1:=hl;rw[←hr,xlA,xlA,Zc] at hl1;have hpl:(qO [[109,97,116,99,104],zj (zo d) (kid n 0) 7 7,[119,105,116,104]]).length=5+(zj (zo d) (kid n 0) 7 7).length+4+2:=by rw[Zc];rfl
 simp only[xlC,xlN] at hl1;simp -implicitDefEqProofs (maxSteps:=3000000) only[go_sem,za];refine Z2 hky ?_;simp -implicitDefEqProofs (maxSteps:=3000000) only[go_sem,za,D,Int.reduceBEq,q8,g0,xlM,Int.reduceToNat];repeat refine Xs ?_
 refine Ep hT (Xa hg h0) (qf hd h0) (qe hf h0) (m:=7) (lo:=7) rfl (by omega) ?_;simp -implicitDefEqProofs (maxSteps:=3000000) only[go_sem,za,D,Int.reduceBEq,q8,g0,xlM,Int.reduceToNat,ZY,zP];repeat refine Xs ?_
 have hp:(109::97::116::99::104::32::(zj (zo d) (kid n 0) 7 7++[32,119,105,116,104]))=qO [[109,97,116,99,104],zj (zo d) (kid n 0) 7 7,[119,105,116,104]]:=rfl;rw[hp];generalize hP:qO [[109,97,116,99,104],zj (zo d) (kid n 0) 7 7,[119,105,116,104]]=P at *;refine zx [] (fun k env s=>∃ (i:Nat) (v:Tx),k+i=n.kids.length+2∧1≤i∧P++(Yr (zo d) v (n.kids.drop i)++[32,101,110,100])=r∧env=[.any,.any,.any,.any,.any,.slice .imm 6 (n.kids.map zq),.any,.any,.any,.any,.any,.sc (.string (ba (P++v))),.sc (.int .i64 i),.any,.any,.any,.any,.any,.any,.any,.any,.any,.any,.any,.any,.any,.any,.any,.any,.any,.any,.any,.any,.any,.any,.any,.any,.any,.any,.any,.any,.any,.any,.any,.any,.any,.any,.any,.any,.any,.any,.any,.any,.any,.any,.any,.any,.any,.any,.any,.any,.any,.any,.any,.any,.any,.any,.any,.any,.any,.any,.any,.any,.any,.any,.any,.any,.any,.any,.any,.any,.any,.any,.any,.any,.any,.any,.any,.any,.any,.any,.any,.any,.any,.any,.any,.any,.any,.any,.any,.any,.any,.any,.any,.any,.any,.any,.any,.any,.any,.any,.any,.any,.any,.any,.any,.any,.any,.any,.any,.any,.any,.any,.any,.any,.any,.any,.any,.any,.any,.any,.any,.any,.any,.any,.any,.any,.any,.any,.any,.any,.any,.any,.any,.any,.any,.any,.any,.any,.any,.any,.any,.any,.any,.any,.any,.any,.any,.any,.any,.any,.any,.any,.any,.any,.any,.any,.any,.any,.any,.any,.any,.any,.any,.any,.any,.any,.any,.any,.any,.any,.any,.any,.any,.any,.any,.any,.any,.any,.any,.any,.any,.any,.any,.any,.any,.any,.any,.any,.any,.any,.any,.any,.any,.any,.any,.any,.any,.any,.any,.any,.any,.any,.any,.any,.any,.any,.any,.any,.any,.any,.any,.any,.any,.any,.any,.any,.any,.any,.any,.any,.any,.any,.any,.any,.any,.any,.any,.any,.any,.any,.any,.any,.any,.any,.any,.any,.any,.any,.any,.any,.any]∧s=st) (n:=n.kids.length+1) ?_ ⟨1,[],by omega,by omega,by rw[←hr,←List.drop_one,xaA],by rw[xaN],rfl⟩ ?_
 ·exact qu
 rintro k env s ⟨i,v,hi,hi1,hv,rfl,rfl⟩;have w1:IntKind.i64.wrap ((i:Int)+1)=((i+1:Nat):Int):=by rw[IntWalk.i64_in _ (by omega)];rfl
 by_cases hlt:i+1<n.kids.length
 ·have c2:decide (((i+1:Nat):Int)<(n.kids.length:Int))=true:=by simp;omega
  have w2:IntKind.i64.wrap ((i:Int)+2)=((i+2:Nat):Int):=by rw[IntWalk.i64_in _ (by omega)];rfl
  have hlt0:i<n.kids.length:=by omega
  have g0:=q7 hlt0;have g1:=q7 hlt;rw[List.drop_eq_getElem_cons hlt0,List.drop_eq_getElem_cons hlt] at hv;have hv:P++(Yr (zo d) (v++qO [[32,124],zo d n.kids[i] 7,[45,62],zj (zo d) n.kids[i+1] 7 7]) (n.kids.drop (i+1+1))++[32,101,110,100])=r:=hv;have hle:=jE (zo d) (n.kids.drop (i+1+1)) (v++qO [[32,124],zo d n.kids[i] 7,[45,62],zj (zo d) n.kids[i+1] 7 7]);rw[xlA,ZU] at hle;have hl3:=hl;rw[←hv,xlA,xlA] at hl3;simp only[xlC,xlN] at hle hl3;simp -implicitDefEqProofs (maxSteps:=3000000) only[go_sem,c2,w1,xlM];refine zC [] mixed rfl ?_;try simp only[go_sem,za,xlM,Int.reduceToNat,g0,g1,w1,ZY,zP]
  repeat refine Xs ?_
  rw[zt];refine⟨.sc (.string (ba (zo d n.kids[i] 7))),?_,?_⟩
  ·simp only[go_sem];refine hT.agg (hg.kids _ (List.getElem_mem hlt0)) (hd.kids _ (List.getElem_mem hlt0)) (hf.kids.1 _ (List.getElem_mem hlt0)) rfl (by omega) ?_;exact zJ
  try simp only[go_sem,za,xlM,Int.reduceToNat,g0,g1,w1,ZY,zP]
  repeat refine Xs ?_
  rw[zt];refine⟨.sc (.string (ba (zj (zo d) n.kids[i+1] 7 7))),?_,?_⟩
  ·simp only[go_sem];refine Ep hT (hg.kids _ (List.getElem_mem hlt)) (hd.kids _ (List.getElem_mem hlt)) (hf.kids.1 _ (List.getElem_mem hlt)) rfl (by omega) ?_;exact zJ
  try simp only[go_sem,za,xlM,Int.reduceToNat,w1,w2,ZY,zP]
  repeat refine Xs ?_
  refine⟨k-2,_,by omega,?_,i+2,v++qO [[32,124],zo d n.kids[i] 7,[45,62],zj (zo d) n.kids[i+1] 7 7],by omega,by omega,hv,rfl⟩;simp only[qO,xaA,xcA,xnA];exact qu
 ·have c2:decide (((i+1:Nat):Int)<(n.kids.length:Int))=false:=by simp;omega
  have hv:P++(v++[32,101,110,100])=r:=by
   rw[←hv];by_cases h0:i<n.kids.length
   ·rw[List.drop_eq_getElem_cons h0,List.drop_of_length_le (by omega)];rfl
   ·rw[List.drop_of_length_le (by omega)];rfl
  have hl3:=hl;rw[←hv,xlA,xlA] at hl3;simp -implicitDefEqProofs (maxSteps:=3000000) only[go_sem,c2,w1,xlM,ZY,zP,xaA,hv];repeat refine Xs ?_
  exact zy (zi _ _) hk
theorem NO{d:Nat}(hT:RtC d):RtC (d+1):=by
 intro n lo r hg hd hf hr hl K st hk;have hr:qC (zo d) n lo=r:=hr;by_cases hky:qX n.kind=[]
 rotate_left
 ·exact OM hT hg hky hd hf hr hl hk
 rcases bh hg.1 hky with h | h | h | h | h | h | h | h | h | h | h | h | h | h | h | h
 ·exact MG hT hg h hd hf hr hl hk
 ·exact Nk hT hg h hd hf hr hl hk
 ·exact Nh hT hg h hd hf hr hl hk
 ·exact NS hT hg h hd hf hr hl hk
 ·exact NY hT hg h hd hf hr hl hk
 ·exact il hT hg h hd hf hr hl hk
 ·exact Au hT hg h hd hf hr hl hk
 ·exact Ow hT hg h hd hf hr hl hk
 ·exact NZ hT hg h hd hf hr hl hk
 ·exact Mq hT hg h hd hf hr hl hk
 ·exact OC hT hg h hd hf hr hl hk
 ·exact sM hT hg h hd hf hr hl hk
 ·exact sP hT hg h hd hf hr hl hk
 ·exact A2 hT hg h hd hf hr hl hk
 ·exact A0 hT hg h hd hf hr hl hk
 ·exact A' hT hg h hd hf hr hl hk
theorem WM:∀ d,RtC d
 | 0=>fun n lo r hg hd=>by obtain⟨k,hk⟩:=hd.pos;cases hk
 | d+1=>NO (WM d)
end Go.Proofs
