/- The document's Text. -/
import Derived.Test.YtkokccjfpebomaaGreatDoorR1
set_option linter.all false
set_option maxHeartbeats 4000000
set_option maxRecDepth 8000
namespace Go.AL
theorem QN{n:Nd}(h:GE n):qa n=true:=by
 cases h with
 | mk n hc hk =>
 unfold qa;rcases hk with h | h | h | h | h | h | h | ⟨h,g⟩ | ⟨h,g⟩ | ⟨h,g⟩ | ⟨h,g⟩ | ⟨h,g⟩
 case _ | _ | _ | _ | _ | _ | _=>simp[h]
 ·simpa[h] using g
 ·rcases h with h | h | h | h | h | h <;> simpa[h] using g
 ·simpa[h] using g
 ·simpa[h] using g
 ·rcases h with h | h | h | h | h | h | h | h <;> simp[h]
theorem lM{n:Nd}(h:GE n)(hk:qM n.kind≠[]):n.text=[]:=by
 cases h with
 | mk n hc h =>
 rcases h with h | h | h | h | h | h | h | ⟨h,g⟩ | ⟨h,g⟩ | ⟨h,g⟩ | ⟨h,g⟩ | ⟨h,g⟩
 case _ | _ | _ | _ | _ | _ | _=>exact absurd (by rw[h];decide) hk
 ·exact absurd (by rw[h];decide) hk
 ·rcases h with h | h | h | h | h | h <;> exact absurd (by rw[h];decide) hk
 ·exact absurd (by rw[h];decide) hk
 ·exact absurd (by rw[h];decide) hk
 ·exact g
theorem dv{n:Nd}(h:GE n)(hk:qM n.kind=[]):n.kind=1∨n.kind=2∨n.kind=3∨n.kind=4∨n.kind=5∨n.kind=24∨n.kind=19∨n.kind=6∨n.kind=7∨n.kind=8∨n.kind=9∨n.kind=10∨n.kind=11∨n.kind=12∨n.kind=13∨n.kind=14:=by
 cases h with
 | mk n hc h =>
 rcases h with h | h | h | h | h | h | h | ⟨h,g⟩ | ⟨h,g⟩ | ⟨h,g⟩ | ⟨h,g⟩ | ⟨h,g⟩
 case _ | _ | _ | _ | _ | _ | _=>simp[h]
 ·simp[h]
 ·rcases h with h | h | h | h | h | h <;> simp[h]
 ·simp[h]
 ·simp[h]
 ·rcases h with h | h | h | h | h | h | h | h <;> (rw[h] at hk;exact absurd hk (by decide))
end Go.AL
namespace Go.Proofs
open Go Go.AL Tryz
theorem bY:(⟨#[]⟩:ByteArray)=ba []:=rfl
theorem XW{K:SV→St→Prop}{st:St}{a b:Tx}(h:a=b)(hk:K (.sc (.string (ba b))) st):K (.sc (.string (ba a))) st:=h▸hk
theorem IK{d:Nat}(hT:RtC d){n:Nd}(hg:GN n)(hkd:n.kind=3)(hd:Dep (d+1) n)(hf:Fit n){lo:Int}:W6 52 d n lo:=by
 intro r hr hl K st hk;refine zc [] func52 rfl results52 ntmps52 ?_;have hky:qM n.kind=[]:=by rw[hkd];decide
 have hm:=QN hg.1;rw[qn _ _ _ hm hky] at hr;simp only[hkd,Int.reduceEq,if_true,if_false,or_false,false_or,or_true,true_or] at hr;have D:∀ j:Int,(n.kind==j)=((3:Int)==j):=fun j=>by rw[hkd]
 have hh:=hf.kids.2.1;simp -implicitDefEqProofs (maxSteps:=9^9) only[go_sem,za];refine ZP hky ?_;simp -implicitDefEqProofs (maxSteps:=9^9) only[go_sem,za,D,Int.reduceBEq,qP];subst hr;exact zu (zh _ _) hk
theorem se{d:Nat}(hT:RtC d){n:Nd}(hg:GN n)(hkd:n.kind=24)(hd:Dep (d+1) n)(hf:Fit n){lo:Int}:W6 52 d n lo:=by
 intro r hr hl K st hk;refine zc [] func52 rfl results52 ntmps52 ?_;have hky:qM n.kind=[]:=by rw[hkd];decide
 have hm:=QN hg.1;rw[qn _ _ _ hm hky] at hr;simp only[hkd,Int.reduceEq,if_true,if_false,or_false,false_or,or_true,true_or] at hr;have D:∀ j:Int,(n.kind==j)=((24:Int)==j):=fun j=>by rw[hkd]
 have hh:=hf.kids.2.1;simp -implicitDefEqProofs (maxSteps:=9^9) only[go_sem,za];refine ZP hky ?_;simp -implicitDefEqProofs (maxSteps:=9^9) only[go_sem,za,D,Int.reduceBEq,qP];subst hr;exact zu (zh _ _) hk
theorem rf{d:Nat}(hT:RtC d){n:Nd}(hg:GN n)(hkd:n.kind=19)(hd:Dep (d+1) n)(hf:Fit n){lo:Int}:W6 52 d n lo:=by
 intro r hr hl K st hk;refine zc [] func52 rfl results52 ntmps52 ?_;have hky:qM n.kind=[]:=by rw[hkd];decide
 have hm:=QN hg.1;rw[qn _ _ _ hm hky] at hr;simp only[hkd,Int.reduceEq,if_true,if_false,or_false,false_or,or_true,true_or] at hr;have D:∀ j:Int,(n.kind==j)=((19:Int)==j):=fun j=>by rw[hkd]
 have hh:=hf.kids.2.1;simp -implicitDefEqProofs (maxSteps:=9^9) only[go_sem,za];refine ZP hky ?_;simp -implicitDefEqProofs (maxSteps:=9^9) only[go_sem,za,D,Int.reduceBEq,qP];subst hr;exact zu (zh _ _) hk
theorem C9{d:Nat}(hT:RtC d){n:Nd}(hg:GN n)(hkd:n.kind=1)(hd:Dep (d+1) n)(hf:Fit n){lo:Int}:W6 52 d n lo:=by
 intro r hr hl K st hk;refine zc [] func52 rfl results52 ntmps52 ?_;have hky:qM n.kind=[]:=by rw[hkd];decide
 have hm:=QN hg.1;rw[qn _ _ _ hm hky] at hr;simp only[hkd,Int.reduceEq,if_true,if_false,or_false,false_or,or_true,true_or] at hr;have D:∀ j:Int,(n.kind==j)=((1:Int)==j):=fun j=>by rw[hkd]
 have hh:=hf.kids.2.1;simp -implicitDefEqProofs (maxSteps:=9^9) only[go_sem,za];refine ZP hky ?_;simp -implicitDefEqProofs (maxSteps:=9^9) only[go_sem,za,D,Int.reduceBEq,qP];refine tm hg.2.num ?_;simp only[go_sem];subst hr;exact zu (zh _ _) hk
theorem IH{d:Nat}(hT:RtC d){n:Nd}(hg:GN n)(hkd:n.kind=2)(hd:Dep (d+1) n)(hf:Fit n){lo:Int}:W6 52 d n lo:=by
 intro r hr hl K st hk;refine zc [] func52 rfl results52 ntmps52 ?_;have hky:qM n.kind=[]:=by rw[hkd];decide
 have hm:=QN hg.1;rw[qn _ _ _ hm hky] at hr;simp only[hkd,Int.reduceEq,if_true,if_false,or_false,false_or,or_true,true_or] at hr;have D:∀ j:Int,(n.kind==j)=((2:Int)==j):=fun j=>by rw[hkd]
 have hh:=hf.kids.2.1;simp -implicitDefEqProofs (maxSteps:=9^9) only[go_sem,za];refine ZP hky ?_;simp -implicitDefEqProofs (maxSteps:=9^9) only[go_sem,za,D,Int.reduceBEq,qP];refine cO hf.kids.2.2.2 ?_;simp only[go_sem];subst hr;exact zu (zh _ _) hk
theorem Iw{d:Nat}(hT:RtC d){n:Nd}(hg:GN n)(hkd:n.kind=6)(hd:Dep (d+1) n)(hf:Fit n){lo:Int}:W6 52 d n lo:=by
 intro r hr hl K st hk;refine zc [] func52 rfl results52 ntmps52 ?_;have hky:qM n.kind=[]:=by rw[hkd];decide
 have hm:=QN hg.1;rw[qn _ _ _ hm hky] at hr;simp only[hkd,Int.reduceEq,if_true,if_false,or_false,false_or,or_true,true_or] at hr;have D:∀ j:Int,(n.kind==j)=((6:Int)==j):=fun j=>by rw[hkd]
 have hh:=hf.kids.2.1;unfold qa at hm;simp only[hkd,Int.reduceEq,if_true,if_false,or_false,false_or,or_true,true_or,decide_eq_true_eq] at hm;have h0:0<n.kids.length:=by omega
 have g0:=qy h0;have hl1:=hl;rw[←hr,ZF] at hl1;try simp only[xlC,xlN] at hl1
 simp -implicitDefEqProofs (maxSteps:=9^9) only[go_sem,za];refine ZP hky ?_;simp -implicitDefEqProofs (maxSteps:=9^9) only[go_sem,za,D,Int.reduceBEq,qP];refine zy [] mixed rfl ?_;try simp only[go_sem,za,xlM,Int.reduceToNat,g0,ZK,zL]
 repeat refine Xb ?_
 rw[zp];refine⟨.sc (.string (ba (zg (zn d) (kid n 0) lo lo))),?_,?_⟩
 ·simp only[go_sem];refine HA hT (QQ hg h0) (z7 hd h0) (zZ hf h0) rfl (by omega) ?_;exact zG
 try simp only[go_sem,za,xlM,Int.reduceToNat,g0,ZK,zL]
 repeat refine Xb ?_
 exact zu (zh _ _) (XW (by rw[←hr];simp only[qF,xaA,xcA,xnA,xaN]) hk)
theorem IV{d:Nat}(hT:RtC d){n:Nd}(hg:GN n)(hkd:n.kind=7)(hd:Dep (d+1) n)(hf:Fit n){lo:Int}:W6 52 d n lo:=by
 intro r hr hl K st hk;refine zc [] func52 rfl results52 ntmps52 ?_;have hky:qM n.kind=[]:=by rw[hkd];decide
 have hm:=QN hg.1;rw[qn _ _ _ hm hky] at hr;simp only[hkd,Int.reduceEq,if_true,if_false,or_false,false_or,or_true,true_or] at hr;have D:∀ j:Int,(n.kind==j)=((7:Int)==j):=fun j=>by rw[hkd]
 have hh:=hf.kids.2.1;unfold qa at hm;simp only[hkd,Int.reduceEq,if_true,if_false,or_false,false_or,or_true,true_or,decide_eq_true_eq] at hm;have h0:0<n.kids.length:=by omega
 have g0:=qy h0;have h1:1<n.kids.length:=by omega
 have g1:=qy h1;have hl1:=hl;rw[←hr,q8] at hl1;try simp only[xlC,xlN] at hl1
 simp -implicitDefEqProofs (maxSteps:=9^9) only[go_sem,za];refine ZP hky ?_;simp -implicitDefEqProofs (maxSteps:=9^9) only[go_sem,za,D,Int.reduceBEq,qP];refine zy [] mixed rfl ?_;try simp only[go_sem,za,xlM,Int.reduceToNat,g0,g1,ZK,zL]
 repeat refine Xb ?_
 rw[zp];refine⟨.sc (.string (ba (zg (zn d) (kid n 0) 1 lo))),?_,?_⟩
 ·simp only[go_sem];refine HA hT (QQ hg h0) (z7 hd h0) (zZ hf h0) rfl (by omega) ?_;exact zG
 try simp only[go_sem,za,xlM,Int.reduceToNat,g0,g1,ZK,zL]
 repeat refine Xb ?_
 rw[zp];refine⟨.sc (.string (ba (zg (zn d) (kid n 1) 0 lo))),?_,?_⟩
 ·simp only[go_sem];refine HA hT (QQ hg h1) (z7 hd h1) (zZ hf h1) rfl (by omega) ?_;exact zG
 try simp only[go_sem,za,xlM,Int.reduceToNat,g0,g1,ZK,zL]
 repeat refine Xb ?_
 exact zu (zh _ _) (XW (by rw[←hr];simp only[qF,xaA,xcA,xnA,xaN]) hk)
theorem A1{d:Nat}(hT:RtC d){n:Nd}(hg:GN n)(hkd:n.kind=8)(hd:Dep (d+1) n)(hf:Fit n){lo:Int}:W6 52 d n lo:=by
 intro r hr hl K st hk;refine zc [] func52 rfl results52 ntmps52 ?_;have hky:qM n.kind=[]:=by rw[hkd];decide
 have hm:=QN hg.1;rw[qn _ _ _ hm hky] at hr;simp only[hkd,Int.reduceEq,if_true,if_false,or_false,false_or,or_true,true_or] at hr;have D:∀ j:Int,(n.kind==j)=((8:Int)==j):=fun j=>by rw[hkd]
 have hh:=hf.kids.2.1;unfold qa at hm;simp only[hkd,Int.reduceEq,if_true,if_false,or_false,false_or,or_true,true_or,decide_eq_true_eq] at hm;have h0:0<n.kids.length:=by omega
 have g0:=qy h0;have h1:1<n.kids.length:=by omega
 have g1:=qy h1;have hl1:=hl;rw[←hr,qU] at hl1;unfold Z' at hl1;rw[ZF] at hl1;try simp only[xlC,xlN] at hl1
 simp -implicitDefEqProofs (maxSteps:=9^9) only[go_sem,za];refine ZP hky ?_;simp -implicitDefEqProofs (maxSteps:=9^9) only[go_sem,za,D,Int.reduceBEq,qP];refine zy [] mixed rfl ?_;try simp only[go_sem,za,xlM,Int.reduceToNat,g0,g1,ZK,zL]
 repeat refine Xb ?_
 rw[zp];refine⟨.sc (.string (ba (zg (zn d) (kid n 0) lo lo))),?_,?_⟩
 ·simp only[go_sem];refine HA hT (QQ hg h0) (z7 hd h0) (zZ hf h0) rfl (by omega) ?_;exact zG
 try simp only[go_sem,za,xlM,Int.reduceToNat,g0,g1,ZK,zL]
 repeat refine Xb ?_
 rw[zp];refine⟨.sc (.string (ba (zg (zn d) (kid n 1) lo lo))),?_,?_⟩
 ·simp only[go_sem];refine HA hT (QQ hg h1) (z7 hd h1) (zZ hf h1) rfl (by omega) ?_;exact zG
 try simp only[go_sem,za,xlM,Int.reduceToNat,g0,g1,ZK,zL]
 repeat refine Xb ?_
 exact zu (zh _ _) (XW (by rw[←hr];simp only[Z',qF,xaA,xcA,xnA,xaN]) hk)
theorem AH{d:Nat}(hT:RtC d){n:Nd}(hg:GN n)(hkd:n.kind=9)(hd:Dep (d+1) n)(hf:Fit n){lo:Int}:W6 52 d n lo:=by
 intro r hr hl K st hk;refine zc [] func52 rfl results52 ntmps52 ?_;have hky:qM n.kind=[]:=by rw[hkd];decide
 have hm:=QN hg.1;rw[qn _ _ _ hm hky] at hr;simp only[hkd,Int.reduceEq,if_true,if_false,or_false,false_or,or_true,true_or] at hr;have D:∀ j:Int,(n.kind==j)=((9:Int)==j):=fun j=>by rw[hkd]
 have hh:=hf.kids.2.1;unfold qa at hm;simp only[hkd,Int.reduceEq,if_true,if_false,or_false,false_or,or_true,true_or,decide_eq_true_eq] at hm;have h0:0<n.kids.length:=by omega
 have g0:=qy h0;have h1:1<n.kids.length:=by omega
 have g1:=qy h1;have hl1:=hl;rw[←hr,qU] at hl1;unfold Z' at hl1;rw[ZF] at hl1;try simp only[xlC,xlN] at hl1
 simp -implicitDefEqProofs (maxSteps:=9^9) only[go_sem,za];refine ZP hky ?_;simp -implicitDefEqProofs (maxSteps:=9^9) only[go_sem,za,D,Int.reduceBEq,qP];refine zy [] mixed rfl ?_;try simp only[go_sem,za,xlM,Int.reduceToNat,g0,g1,ZK,zL]
 repeat refine Xb ?_
 rw[zp];refine⟨.sc (.string (ba (zg (zn d) (kid n 0) lo lo))),?_,?_⟩
 ·simp only[go_sem];refine HA hT (QQ hg h0) (z7 hd h0) (zZ hf h0) rfl (by omega) ?_;exact zG
 try simp only[go_sem,za,xlM,Int.reduceToNat,g0,g1,ZK,zL]
 repeat refine Xb ?_
 rw[zp];refine⟨.sc (.string (ba (zg (zn d) (kid n 1) lo lo))),?_,?_⟩
 ·simp only[go_sem];refine HA hT (QQ hg h1) (z7 hd h1) (zZ hf h1) rfl (by omega) ?_;exact zG
 try simp only[go_sem,za,xlM,Int.reduceToNat,g0,g1,ZK,zL]
 repeat refine Xb ?_
 exact zu (zh _ _) (XW (by rw[←hr];simp only[Z',qF,xaA,xcA,xnA,xaN]) hk)
theorem lu{d:Nat}(hT:RtC d){n:Nd}(hg:GN n)(hkd:n.kind=10)(hd:Dep (d+1) n)(hf:Fit n){lo:Int}:W6 52 d n lo:=by
 intro r hr hl K st hk;refine zc [] func52 rfl results52 ntmps52 ?_;have hky:qM n.kind=[]:=by rw[hkd];decide
 have hm:=QN hg.1;rw[qn _ _ _ hm hky] at hr;simp only[hkd,Int.reduceEq,if_true,if_false,or_false,false_or,or_true,true_or] at hr;have D:∀ j:Int,(n.kind==j)=((10:Int)==j):=fun j=>by rw[hkd]
 have hh:=hf.kids.2.1;unfold qa at hm;simp only[hkd,Int.reduceEq,if_true,if_false,or_false,false_or,or_true,true_or,decide_eq_true_eq] at hm;have h0:0<n.kids.length:=by omega
 have g0:=qy h0;have h1:1<n.kids.length:=by omega
 have g1:=qy h1;have h2:2<n.kids.length:=by omega
 have g2:=qy h2;have hl1:=hl;rw[←hr,Gg] at hl1;try simp only[xlC,xlN] at hl1
 simp -implicitDefEqProofs (maxSteps:=9^9) only[go_sem,za];refine ZP hky ?_;simp -implicitDefEqProofs (maxSteps:=9^9) only[go_sem,za,D,Int.reduceBEq,qP];refine zy [] mixed rfl ?_;try simp only[go_sem,za,xlM,Int.reduceToNat,g0,g1,g2,ZK,zL]
 repeat refine Xb ?_
 rw[zp];refine⟨.sc (.string (ba (zg (zn d) (kid n 0) lo lo))),?_,?_⟩
 ·simp only[go_sem];refine HA hT (QQ hg h0) (z7 hd h0) (zZ hf h0) rfl (by omega) ?_;exact zG
 try simp only[go_sem,za,xlM,Int.reduceToNat,g0,g1,g2,ZK,zL]
 repeat refine Xb ?_
 rw[zp];refine⟨.sc (.string (ba (zg (zn d) (kid n 1) lo lo))),?_,?_⟩
 ·simp only[go_sem];refine HA hT (QQ hg h1) (z7 hd h1) (zZ hf h1) rfl (by omega) ?_;exact zG
 try simp only[go_sem,za,xlM,Int.reduceToNat,g0,g1,g2,ZK,zL]
 repeat refine Xb ?_
 rw[zp];refine⟨.sc (.string (ba (zg (zn d) (kid n 2) lo lo))),?_,?_⟩
 ·simp only[go_sem];refine HA hT (QQ hg h2) (z7 hd h2) (zZ hf h2) rfl (by omega) ?_;exact zG
 try simp only[go_sem,za,xlM,Int.reduceToNat,g0,g1,g2,ZK,zL]
 repeat refine Xb ?_
 exact zu (zh _ _) (XW (by rw[←hr];simp only[qF,xaA,xcA,xnA,xaN]) hk)
theorem lz{d:Nat}(hT:RtC d){n:Nd}(hg:GN n)(hkd:n.kind=12)(hd:Dep (d+1) n)(hf:Fit n){lo:Int}:W6 52 d n lo:=by
 intro r hr hl K st hk;refine zc [] func52 rfl results52 ntmps52 ?_;have hky:qM n.kind=[]:=by rw[hkd];decide
 have hm:=QN hg.1;rw[qn _ _ _ hm hky] at hr;simp only[hkd,Int.reduceEq,if_true,if_false,or_false,false_or,or_true,true_or] at hr;have D:∀ j:Int,(n.kind==j)=((12:Int)==j):=fun j=>by rw[hkd]
 have hh:=hf.kids.2.1;unfold qa at hm;simp only[hkd,Int.reduceEq,if_true,if_false,or_false,false_or,or_true,true_or,decide_eq_true_eq] at hm;have h0:0<n.kids.length:=by omega
 have g0:=qy h0;have h1:1<n.kids.length:=by omega
 have g1:=qy h1;have hl1:=hl;rw[←hr,GO] at hl1;try simp only[xlC,xlN] at hl1
 simp -implicitDefEqProofs (maxSteps:=9^9) only[go_sem,za];refine ZP hky ?_;simp -implicitDefEqProofs (maxSteps:=9^9) only[go_sem,za,D,Int.reduceBEq,qP];refine zy [] mixed rfl ?_;try simp only[go_sem,za,xlM,Int.reduceToNat,g0,g1,ZK,zL]
 repeat refine Xb ?_
 rw[zp];refine⟨.sc (.string (ba (zg (zn d) (kid n 0) 7 7))),?_,?_⟩
 ·simp only[go_sem];refine HA hT (QQ hg h0) (z7 hd h0) (zZ hf h0) rfl (by omega) ?_;exact zG
 try simp only[go_sem,za,xlM,Int.reduceToNat,g0,g1,ZK,zL]
 repeat refine Xb ?_
 rw[zp];refine⟨.sc (.string (ba (zg (zn d) (kid n 1) 7 7))),?_,?_⟩
 ·simp only[go_sem];refine HA hT (QQ hg h1) (z7 hd h1) (zZ hf h1) rfl (by omega) ?_;exact zG
 try simp only[go_sem,za,xlM,Int.reduceToNat,g0,g1,ZK,zL]
 repeat refine Xb ?_
 exact zu (zh _ _) (XW (by rw[←hr];simp only[qF,xaA,xcA,xnA,xaN]) hk)
theorem rA{d:Nat}(hT:RtC d){n:Nd}(hg:GN n)(hkd:n.kind=14)(hd:Dep (d+1) n)(hf:Fit n){lo:Int}:W6 52 d n lo:=by
 intro r hr hl K st hk;refine zc [] func52 rfl results52 ntmps52 ?_;have hky:qM n.kind=[]:=by rw[hkd];decide
 have hm:=QN hg.1;rw[qn _ _ _ hm hky] at hr;simp only[hkd,Int.reduceEq,if_true,if_false,or_false,false_or,or_true,true_or] at hr;have D:∀ j:Int,(n.kind==j)=((14:Int)==j):=fun j=>by rw[hkd]
 have hh:=hf.kids.2.1;unfold qa at hm;simp only[hkd,Int.reduceEq,if_true,if_false,or_false,false_or,or_true,true_or,decide_eq_true_eq] at hm;have h0:0<n.kids.length:=by omega
 have g0:=qy h0;have h1:1<n.kids.length:=by omega
 have g1:=qy h1;have hl1:=hl;rw[←hr,qU] at hl1;try simp only[xlC,xlN] at hl1
 simp -implicitDefEqProofs (maxSteps:=9^9) only[go_sem,za];refine ZP hky ?_;simp -implicitDefEqProofs (maxSteps:=9^9) only[go_sem,za,D,Int.reduceBEq,qP];refine zy [] mixed rfl ?_;try simp only[go_sem,za,xlM,Int.reduceToNat,g0,g1,ZK,zL]
 repeat refine Xb ?_
 rw[zp];refine⟨.sc (.string (ba (zg (zn d) (kid n 0) 5 lo))),?_,?_⟩
 ·simp only[go_sem];refine HA hT (QQ hg h0) (z7 hd h0) (zZ hf h0) rfl (by omega) ?_;exact zG
 try simp only[go_sem,za,xlM,Int.reduceToNat,g0,g1,ZK,zL]
 repeat refine Xb ?_
 rw[zp];refine⟨.sc (.string (ba (zg (zn d) (kid n 1) 7 7))),?_,?_⟩
 ·simp only[go_sem];refine HA hT (QQ hg h1) (z7 hd h1) (zZ hf h1) rfl (by omega) ?_;exact zG
 try simp only[go_sem,za,xlM,Int.reduceToNat,g0,g1,ZK,zL]
 repeat refine Xb ?_
 exact zu (zh _ _) (XW (by rw[←hr];simp only[qF,xaA,xcA,xnA,xaN]) hk)
theorem I9{d:Nat}(hT:RtC d){n:Nd}(hg:GN n)(hkd:n.kind=4)(hd:Dep (d+1) n)(hf:Fit n){lo:Int}:W6 52 d n lo:=by
 intro r hr hl K st hk;refine zc [] func52 rfl results52 ntmps52 ?_;have hky:qM n.kind=[]:=by rw[hkd];decide
 have hm:=QN hg.1;rw[qn _ _ _ hm hky] at hr;simp only[hkd,Int.reduceEq,if_true,if_false,or_false,false_or,or_true,true_or] at hr;have D:∀ j:Int,(n.kind==j)=((4:Int)==j):=fun j=>by rw[hkd]
 have hh:=hf.kids.2.1;simp -implicitDefEqProofs (maxSteps:=9^9) only[go_sem,za];refine ZP hky ?_;simp -implicitDefEqProofs (maxSteps:=9^9) only[go_sem,xlM,bY,zL,xnA,za,D,Int.reduceBEq,qP];have ht4:=hf.kids.2.2.2;repeat refine Xb ?_
 refine zt [] (fun k env s=>∃ (i:Nat) (v:Tx),k+i=n.kids.length∧XJ (zn d) lo v (n.kids.drop i)=r∧env=(.any :: .sc (.int .i64 lo) :: .any :: .any :: .any :: .slice .imm 6 (n.kids.map zq) :: .any :: .sc (.string (ba v)) :: .sc (.int .i64 i) :: .any :: .any :: .any::X3 (XD (QX (QX (QX [])))))∧s=st) (n:=n.kids.length) ?_ ⟨0,n.text,by omega,hr,rfl,rfl⟩ ?_
 ·exact qv
 rintro k env s ⟨i,v,hi,hv,rfl,rfl⟩;by_cases hlt:i<n.kids.length
 ·have c2:decide ((i:Int)<(n.kids.length:Int))=true:=by simp;omega
  have w1:=KL i;have g1:=Zm hlt;rw[List.drop_eq_getElem_cons hlt] at hv;have hv:XJ (zn d) lo (qF [v,zg (zn d) n.kids[i] 0 lo]) (n.kids.drop (i+1))=r:=hv;have hle:=Hc (zn d) lo (n.kids.drop (i+1)) (qF [v,zg (zn d) n.kids[i] 0 lo]);rw[hv,q8] at hle;simp -implicitDefEqProofs (maxSteps:=9^9) only[go_sem,c2,w1,xlM,g1,za,uA,zL];repeat refine Xb ?_
  refine HA hT (hg.kids _ (List.getElem_mem hlt)) (hd.kids _ (List.getElem_mem hlt)) (hf.kids.1 _ (List.getElem_mem hlt)) rfl (by omega) ?_;simp -implicitDefEqProofs (maxSteps:=9^9) only[go_sem,w1,uA,zL];repeat refine Xb ?_
  refine⟨k-1,_,by omega,?_,i+1,_,by omega,hv,rfl⟩;exact qv
 ·have c2:decide ((i:Int)<(n.kids.length:Int))=false:=by simp;omega
  have hv:v=r:=by rw[←hv,List.drop_of_length_le (by omega)];rfl
  subst hv;simp -implicitDefEqProofs (maxSteps:=9^9) only[go_sem,c2,xlM];exact zu (zh _ _) hk
theorem IU{d:Nat}(hT:RtC d){n:Nd}(hg:GN n)(hkd:n.kind=5)(hd:Dep (d+1) n)(hf:Fit n){lo:Int}:W6 52 d n lo:=by
 intro r hr hl K st hk;refine zc [] func52 rfl results52 ntmps52 ?_;have hky:qM n.kind=[]:=by rw[hkd];decide
 have hm:=QN hg.1;rw[qn _ _ _ hm hky] at hr;simp only[hkd,Int.reduceEq,if_true,if_false,or_false,false_or,or_true,true_or] at hr;have D:∀ j:Int,(n.kind==j)=((5:Int)==j):=fun j=>by rw[hkd]
 have hh:=hf.kids.2.1;simp -implicitDefEqProofs (maxSteps:=9^9) only[go_sem,za];refine ZP hky ?_;simp -implicitDefEqProofs (maxSteps:=9^9) only[go_sem,xlM,bY,zL,xnA,za,D,Int.reduceBEq,qP];have ht4:=hf.kids.2.2.2;repeat refine Xb ?_
 refine zt [] (fun k env s=>∃ (i:Nat) (v:Tx),k+i=n.kids.length∧XJ (zn d) lo v (n.kids.drop i)=r∧env=(.any :: .sc (.int .i64 lo) :: .any :: .any :: .any :: .slice .imm 6 (n.kids.map zq) :: .any :: .sc (.string (ba v)) :: .sc (.int .i64 i) :: .any :: .any :: .any::X3 (XD (QX (QX (QX [])))))∧s=st) (n:=n.kids.length) ?_ ⟨0,n.text,by omega,hr,rfl,rfl⟩ ?_
 ·exact qv
 rintro k env s ⟨i,v,hi,hv,rfl,rfl⟩;by_cases hlt:i<n.kids.length
 ·have c2:decide ((i:Int)<(n.kids.length:Int))=true:=by simp;omega
  have w1:=KL i;have g1:=Zm hlt;rw[List.drop_eq_getElem_cons hlt] at hv;have hv:XJ (zn d) lo (qF [v,zg (zn d) n.kids[i] 0 lo]) (n.kids.drop (i+1))=r:=hv;have hle:=Hc (zn d) lo (n.kids.drop (i+1)) (qF [v,zg (zn d) n.kids[i] 0 lo]);rw[hv,q8] at hle;simp -implicitDefEqProofs (maxSteps:=9^9) only[go_sem,c2,w1,xlM,g1,za,uA,zL];repeat refine Xb ?_
  refine HA hT (hg.kids _ (List.getElem_mem hlt)) (hd.kids _ (List.getElem_mem hlt)) (hf.kids.1 _ (List.getElem_mem hlt)) rfl (by omega) ?_;simp -implicitDefEqProofs (maxSteps:=9^9) only[go_sem,w1,uA,zL];repeat refine Xb ?_
  refine⟨k-1,_,by omega,?_,i+1,_,by omega,hv,rfl⟩;exact qv
 ·have c2:decide ((i:Int)<(n.kids.length:Int))=false:=by simp;omega
  have hv:v=r:=by rw[←hv,List.drop_of_length_le (by omega)];rfl
  subst hv;simp -implicitDefEqProofs (maxSteps:=9^9) only[go_sem,c2,xlM];exact zu (zh _ _) hk
theorem CB{d:Nat}(hT:RtC d){n:Nd}(hg:GN n)(hky:qM n.kind≠[])(hd:Dep (d+1) n)(hf:Fit n){lo:Int}:W6 52 d n lo:=by
 intro r hr hl K st hk;refine zc [] func52 rfl results52 ntmps52 ?_;have hm:=QN hg.1;have ht:=lM hg.1 hky;have hh:=hf.kids.2.1;unfold QE at hr;rw[if_neg (by rw[hm];decide),if_pos hky] at hr;have e:(!(qM n.kind==[]))=true:=by simp[hky]
 have hkl:=yS n.kind;simp -implicitDefEqProofs (maxSteps:=9^9) only[go_sem,za];refine ZP rfl ?_;simp -implicitDefEqProofs (maxSteps:=9^9) only[go_sem,xlM,bY,zL,xnA,za,e,Qy,ht,xaN];have ht4:=hf.kids.2.2.2;repeat refine Xb ?_
 refine zt [] (fun k env s=>∃ (i:Nat) (v:Tx),k+i=n.kids.length∧XJ (zn d) lo v (n.kids.drop i)=r∧env=(.any :: .sc (.int .i64 lo) :: .any :: .any :: .any :: .slice .imm 6 (n.kids.map zq) :: .any :: .sc (.string (ba v)) :: .sc (.int .i64 i) :: .any :: .any :: .any::X3 (XD (QX (QX (QX [])))))∧s=st) (n:=n.kids.length) ?_ ⟨0,qM n.kind,by omega,hr,rfl,rfl⟩ ?_
 ·exact qv
 rintro k env s ⟨i,v,hi,hv,rfl,rfl⟩;by_cases hlt:i<n.kids.length
 ·have c2:decide ((i:Int)<(n.kids.length:Int))=true:=by simp;omega
  have w1:=KL i;have g1:=Zm hlt;rw[List.drop_eq_getElem_cons hlt] at hv;have hv:XJ (zn d) lo (qF [v,zg (zn d) n.kids[i] 0 lo]) (n.kids.drop (i+1))=r:=hv;have hle:=Hc (zn d) lo (n.kids.drop (i+1)) (qF [v,zg (zn d) n.kids[i] 0 lo]);rw[hv,q8] at hle;simp -implicitDefEqProofs (maxSteps:=9^9) only[go_sem,c2,w1,xlM,g1,za,uA,zL];repeat refine Xb ?_
  refine HA hT (hg.kids _ (List.getElem_mem hlt)) (hd.kids _ (List.getElem_mem hlt)) (hf.kids.1 _ (List.getElem_mem hlt)) rfl (by omega) ?_;simp -implicitDefEqProofs (maxSteps:=9^9) only[go_sem,w1,uA,zL];repeat refine Xb ?_
  refine⟨k-1,_,by omega,?_,i+1,_,by omega,hv,rfl⟩;exact qv
 ·have c2:decide ((i:Int)<(n.kids.length:Int))=false:=by simp;omega
  have hv:v=r:=by rw[←hv,List.drop_of_length_le (by omega)];rfl
  subst hv;simp -implicitDefEqProofs (maxSteps:=9^9) only[go_sem,c2,xlM];exact zu (zh _ _) hk
theorem aD{d:Nat}(hT:RtC d){n:Nd}(hg:GN n)(hkd:n.kind=13)(hd:Dep (d+1) n)(hf:Fit n){lo:Int}:W6 52 d n lo:=by
 intro r hr hl K st hk;refine zc [] func52 rfl results52 ntmps52 ?_;have hky:qM n.kind=[]:=by rw[hkd];decide
 have hm:=QN hg.1;rw[qn _ _ _ hm hky] at hr;simp only[hkd,Int.reduceEq,if_true,if_false,or_false,false_or,or_true,true_or] at hr;have D:∀ j:Int,(n.kind==j)=((13:Int)==j):=fun j=>by rw[hkd]
 have hh:=hf.kids.2.1;unfold qa at hm;simp only[hkd,Int.reduceEq,if_true,if_false,or_false,false_or,or_true,true_or,decide_eq_true_eq] at hm;have h0:0<n.kids.length:=by omega
 have g0:=qy h0;have h1:1<n.kids.length:=by omega
 have g1:=qy h1;have hb:qO n=ZD n.text:=by unfold qO;simp only[hkd,Int.reduceEq,if_true,if_false,or_self]
 have hs:ZD n.text=5∨ZD n.text=4∨ZD n.text=3:=by
  unfold ZD;repeat' split
  all_goals simp
 rcases hs with hs | hs | hs
 ·rw[hs] at hb;have hr:qF [zg (zn d) (kid n 0) 4 lo,n.text,zg (zn d) (kid n 1) 4 lo]=r:=by rw[←hr];unfold bq;rw[hs];rfl
  have hl1:=hl;rw[←hr,qU] at hl1;simp -implicitDefEqProofs (maxSteps:=9^9) only[go_sem,za];refine ZP hky ?_;simp -implicitDefEqProofs (maxSteps:=9^9) only[go_sem,za,D,Int.reduceBEq,qP];refine Nf hb ?_;simp -implicitDefEqProofs (maxSteps:=9^9) only[go_sem,Int.reduceBEq,show IntKind.i64.wrap (5-1)=4 from rfl];refine zy [] mixed rfl ?_;try simp only[go_sem,za,xlM,Int.reduceToNat,g0,g1,ZK,zL]
  repeat refine Xb ?_
  rw[zp];refine⟨.sc (.string (ba (zg (zn d) (kid n 0) 4 lo))),?_,?_⟩
  ·simp only[go_sem];refine HA hT (QQ hg h0) (z7 hd h0) (zZ hf h0) rfl (by omega) ?_;exact zG
  try simp only[go_sem,za,xlM,Int.reduceToNat,g0,g1,ZK,zL]
  repeat refine Xb ?_
  rw[zp];refine⟨.sc (.string (ba (zg (zn d) (kid n 1) 4 lo))),?_,?_⟩
  ·simp only[go_sem];refine HA hT (QQ hg h1) (z7 hd h1) (zZ hf h1) rfl (by omega) ?_;exact zG
  try simp only[go_sem,za,xlM,Int.reduceToNat,g0,g1,ZK,zL]
  repeat refine Xb ?_
  exact zu (zh _ _) (XW (by rw[←hr];simp only[qF,xaA,xcA,xnA,xaN]) hk)
 ·rw[hs] at hb;have hr:qF [zg (zn d) (kid n 0) 4 lo,n.text,zg (zn d) (kid n 1) 3 lo]=r:=by rw[←hr];unfold bq;rw[hs];rfl
  have hl1:=hl;rw[←hr,qU] at hl1;simp -implicitDefEqProofs (maxSteps:=9^9) only[go_sem,za];refine ZP hky ?_;simp -implicitDefEqProofs (maxSteps:=9^9) only[go_sem,za,D,Int.reduceBEq,qP];refine Nf hb ?_;simp -implicitDefEqProofs (maxSteps:=9^9) only[go_sem,Int.reduceBEq,show IntKind.i64.wrap (4-1)=3 from rfl];refine zy [] mixed rfl ?_;try simp only[go_sem,za,xlM,Int.reduceToNat,g0,g1,ZK,zL]
  repeat refine Xb ?_
  rw[zp];refine⟨.sc (.string (ba (zg (zn d) (kid n 0) 4 lo))),?_,?_⟩
  ·simp only[go_sem];refine HA hT (QQ hg h0) (z7 hd h0) (zZ hf h0) rfl (by omega) ?_;exact zG
  try simp only[go_sem,za,xlM,Int.reduceToNat,g0,g1,ZK,zL]
  repeat refine Xb ?_
  rw[zp];refine⟨.sc (.string (ba (zg (zn d) (kid n 1) 3 lo))),?_,?_⟩
  ·simp only[go_sem];refine HA hT (QQ hg h1) (z7 hd h1) (zZ hf h1) rfl (by omega) ?_;exact zG
  try simp only[go_sem,za,xlM,Int.reduceToNat,g0,g1,ZK,zL]
  repeat refine Xb ?_
  exact zu (zh _ _) (XW (by rw[←hr];simp only[qF,xaA,xcA,xnA,xaN]) hk)
 ·rw[hs] at hb;have hr:qF [zg (zn d) (kid n 0) 3 lo,n.text,zg (zn d) (kid n 1) 2 lo]=r:=by rw[←hr];unfold bq;rw[hs];rfl
  have hl1:=hl;rw[←hr,qU] at hl1;simp -implicitDefEqProofs (maxSteps:=9^9) only[go_sem,za];refine ZP hky ?_;simp -implicitDefEqProofs (maxSteps:=9^9) only[go_sem,za,D,Int.reduceBEq,qP];refine Nf hb ?_;simp -implicitDefEqProofs (maxSteps:=9^9) only[go_sem,Int.reduceBEq,show IntKind.i64.wrap (3-1)=2 from rfl];refine zy [] mixed rfl ?_;try simp only[go_sem,za,xlM,Int.reduceToNat,g0,g1,ZK,zL]
  repeat refine Xb ?_
  rw[zp];refine⟨.sc (.string (ba (zg (zn d) (kid n 0) 3 lo))),?_,?_⟩
  ·simp only[go_sem];refine HA hT (QQ hg h0) (z7 hd h0) (zZ hf h0) rfl (by omega) ?_;exact zG
  try simp only[go_sem,za,xlM,Int.reduceToNat,g0,g1,ZK,zL]
  repeat refine Xb ?_
  rw[zp];refine⟨.sc (.string (ba (zg (zn d) (kid n 1) 2 lo))),?_,?_⟩
  ·simp only[go_sem];refine HA hT (QQ hg h1) (z7 hd h1) (zZ hf h1) rfl (by omega) ?_;exact zG
  try simp only[go_sem,za,xlM,Int.reduceToNat,g0,g1,ZK,zL]
  repeat refine Xb ?_
  exact zu (zh _ _) (XW (by rw[←hr];simp only[qF,xaA,xcA,xnA,xaN]) hk)
theorem aA{d:Nat}(hT:RtC d){n:Nd}(hg:GN n)(hkd:n.kind=11)(hd:Dep (d+1) n)(hf:Fit n){lo:Int}:W6 52 d n lo:=by
 intro r hr hl K st hk;refine zc [] func52 rfl results52 ntmps52 ?_;have hky:qM n.kind=[]:=by rw[hkd];decide
 have hm:=QN hg.1;rw[qn _ _ _ hm hky] at hr;simp only[hkd,Int.reduceEq,if_true,if_false,or_false,false_or,or_true,true_or] at hr;have D:∀ j:Int,(n.kind==j)=((11:Int)==j):=fun j=>by rw[hkd]
 have hh:=hf.kids.2.1;unfold qa at hm;simp only[hkd,Int.reduceEq,if_true,if_false,or_false,false_or,or_true,true_or,decide_eq_true_eq] at hm;have h0:0<n.kids.length:=by omega
 have g0:=qy h0;have hl1:=hl;rw[←hr,xlA,xlA,qU] at hl1;have hpl:(qF [[109,97,116,99,104],zg (zn d) (kid n 0) 7 7,[119,105,116,104]]).length=5+(zg (zn d) (kid n 0) 7 7).length+4+2:=by rw[qU];rfl
 simp only[xlC,xlN] at hl1;simp -implicitDefEqProofs (maxSteps:=9^9) only[go_sem,za];refine ZP hky ?_;simp -implicitDefEqProofs (maxSteps:=9^9) only[go_sem,za,D,Int.reduceBEq,qP,g0,xlM,Int.reduceToNat];repeat refine Xb ?_
 refine HA hT (QQ hg h0) (z7 hd h0) (zZ hf h0) (m:=7) (lo:=7) rfl (by omega) ?_;simp -implicitDefEqProofs (maxSteps:=9^9) only[go_sem,za,D,Int.reduceBEq,qP,g0,xlM,Int.reduceToNat,ZK,zL];repeat refine Xb ?_
 have hp:(109::97::116::99::104::32::(zg (zn d) (kid n 0) 7 7++[32,119,105,116,104]))=qF [[109,97,116,99,104],zg (zn d) (kid n 0) 7 7,[119,105,116,104]]:=rfl;rw[hp];generalize hP:qF [[109,97,116,99,104],zg (zn d) (kid n 0) 7 7,[119,105,116,104]]=P at *;refine zt [] (fun k env s=>∃ (i:Nat) (v:Tx),k+i=n.kids.length+2∧1≤i∧P++(Yi (zn d) v (n.kids.drop i)++[32,101,110,100])=r∧env=(.any::XQ (.slice .imm 6 (n.kids.map zq) :: .any::XQ (.sc (.string (ba (P++v))) :: .sc (.int .i64 i) :: .any :: .any :: .any::XQ (JW (XD (QX (QX (QX []))))))))∧s=st) (n:=n.kids.length+1) ?_ ⟨1,[],by omega,by omega,by rw[←hr,←List.drop_one,xaA],by rw[xaN],rfl⟩ ?_
 ·exact qv
 rintro k env s ⟨i,v,hi,hi1,hv,rfl,rfl⟩;have w1:=KL i;by_cases hlt:i+1<n.kids.length
 ·have c2:decide (((i+1:Nat):Int)<(n.kids.length:Int))=true:=by simp;omega
  have w2:IntKind.i64.wrap ((i:Int)+2)=((i+2:Nat):Int):=by rw[IntWalk.i64_in _ (by omega)];rfl
  have hlt0:i<n.kids.length:=by omega
  have g0:=Zm hlt0;have g1:=Zm hlt;rw[List.drop_eq_getElem_cons hlt0,List.drop_eq_getElem_cons hlt] at hv;have hv:P++(Yi (zn d) (v++qF [[32,124],zn d n.kids[i] 7,[45,62],zg (zn d) n.kids[i+1] 7 7]) (n.kids.drop (i+1+1))++[32,101,110,100])=r:=hv;have hle:=LH (zn d) (n.kids.drop (i+1+1)) (v++qF [[32,124],zn d n.kids[i] 7,[45,62],zg (zn d) n.kids[i+1] 7 7]);rw[xlA,ZF] at hle;have hl3:=hl;rw[←hv,xlA,xlA] at hl3;simp only[xlC,xlN] at hle hl3;simp -implicitDefEqProofs (maxSteps:=9^9) only[go_sem,c2,w1,xlM];refine zy [] mixed rfl ?_;try simp only[go_sem,za,xlM,Int.reduceToNat,g0,g1,w1,ZK,zL]
  repeat refine Xb ?_
  rw[zp];refine⟨.sc (.string (ba (zn d n.kids[i] 7))),?_,?_⟩
  ·simp only[go_sem];refine hT.agg (hg.kids _ (List.getElem_mem hlt0)) (hd.kids _ (List.getElem_mem hlt0)) (hf.kids.1 _ (List.getElem_mem hlt0)) rfl (by omega) ?_;exact zG
  try simp only[go_sem,za,xlM,Int.reduceToNat,g0,g1,w1,ZK,zL]
  repeat refine Xb ?_
  rw[zp];refine⟨.sc (.string (ba (zg (zn d) n.kids[i+1] 7 7))),?_,?_⟩
  ·simp only[go_sem];refine HA hT (hg.kids _ (List.getElem_mem hlt)) (hd.kids _ (List.getElem_mem hlt)) (hf.kids.1 _ (List.getElem_mem hlt)) rfl (by omega) ?_;exact zG
  try simp only[go_sem,za,xlM,Int.reduceToNat,w1,w2,ZK,zL]
  repeat refine Xb ?_
  refine⟨k-2,_,by omega,?_,i+2,v++qF [[32,124],zn d n.kids[i] 7,[45,62],zg (zn d) n.kids[i+1] 7 7],by omega,by omega,hv,rfl⟩;simp only[qF,xaA,xcA,xnA];exact qv
 ·have c2:decide (((i+1:Nat):Int)<(n.kids.length:Int))=false:=by simp;omega
  have hv:P++(v++[32,101,110,100])=r:=by
   rw[←hv];by_cases h0:i<n.kids.length
   ·rw[List.drop_eq_getElem_cons h0,List.drop_of_length_le (by omega)];rfl
   ·rw[List.drop_of_length_le (by omega)];rfl
  have hl3:=hl;rw[←hv,xlA,xlA] at hl3;simp -implicitDefEqProofs (maxSteps:=9^9) only[go_sem,c2,w1,xlM,ZK,zL,xaA,hv];repeat refine Xb ?_
  exact zu (zh _ _) hk
theorem IA{d:Nat}(hT:RtC d):RtC (d+1):=by
 intro n lo r hg hd hf hr hl K st hk;have hr:QE (zn d) n lo=r:=hr;by_cases hky:qM n.kind=[]
 rotate_left
 ·exact CB hT hg hky hd hf hr hl hk
 rcases dv hg.1 hky with h | h | h | h | h | h | h | h | h | h | h | h | h | h | h | h
 ·exact C9 hT hg h hd hf hr hl hk
 ·exact IH hT hg h hd hf hr hl hk
 ·exact IK hT hg h hd hf hr hl hk
 ·exact I9 hT hg h hd hf hr hl hk
 ·exact IU hT hg h hd hf hr hl hk
 ·exact se hT hg h hd hf hr hl hk
 ·exact rf hT hg h hd hf hr hl hk
 ·exact Iw hT hg h hd hf hr hl hk
 ·exact IV hT hg h hd hf hr hl hk
 ·exact A1 hT hg h hd hf hr hl hk
 ·exact AH hT hg h hd hf hr hl hk
 ·exact lu hT hg h hd hf hr hl hk
 ·exact aA hT hg h hd hf hr hl hk
 ·exact lz hT hg h hd hf hr hl hk
 ·exact aD hT hg h hd hf hr hl hk
 ·exact rA hT hg h hd hf hr hl hk
theorem WA:∀ d,RtC d
 | 0=>fun n lo r hg hd=>by obtain⟨k,hk⟩:=hd.pos;cases hk
 | d+1=>IA (WA d)
end Go.Proofs
