/- show.text. -/
import Derived.Test.YtkokccjfpebomaaGreatDoorS2
import Derived.Test.YtkokccjfpebomaaGreatDoorS3
set_option maxHeartbeats 4000000
set_option linter.unusedSimpArgs false
set_option linter.unusedVariables false
set_option maxRecDepth 8000
namespace Go.Proofs
open Go Go.AL
theorem zmd {d:Nat} (hT:TxC d) {n:Nd} (hd:Dep (d+1) n) (hf:Fit n) (h1:0<n.kids.length) {w:Tx} {x:ByteArray} (hx:x=ba w) {lo:Int} {r:Tx} (hr:Xd (zI d) w n lo=r) (hl:r.length≤140737488355328) {K:SV→St→Prop} {st:St} (hk:K (.sc (.string (ba r))) st) :
  ACalls Tryz.prog 42 [.sc (.string x),.agg [.sc (.int .i64 n.kind),.sc (.string (ba n.text)),.sc (.int .i64 n.num),.sc (.int .i64 n.pos),.slice .imm 1 (n.names.map qv),.slice .imm 6 (n.kids.map zH)],.sc (.int .i64 lo)] K st:=by
 subst hx
 have:=zvB hT hd hf h1 hr hl hk
 rw[Ze] at this
 exact this
theorem OpA {d:Nat} (hT:TxC d) {n:Nd} (hd:Dep (d+1) n) (hf:Fit n) (h2:1<n.kids.length) {lo:Int} {r:Tx} (hr:opF (zI d) n lo=r) (hl:r.length≤140737488355328) {K:SV→St→Prop} {st:St} (hk:K (.sc (.string (ba r))) st) :
  ACalls Tryz.prog 70 [.agg [.sc (.int .i64 n.kind),.sc (.string (ba n.text)),.sc (.int .i64 n.num),.sc (.int .i64 n.pos),.slice .imm 1 (n.names.map qv),.slice .imm 6 (n.kids.map zH)],.sc (.int .i64 lo)] K st:=by
 have:=zAH hT hd hf h2 hr hl hk
 rw[Ze] at this
 exact this
theorem Xg {n:Nd} {r:Bool} (hr:qV n=r) {K:SV→St→Prop} {st:St} (hk:K (.sc (.bool r)) st):ACalls Tryz.prog 41 [.agg [.sc (.int .i64 n.kind),.sc (.string (ba n.text)),.sc (.int .i64 n.num),.sc (.int .i64 n.pos),.slice .imm 1 (n.names.map qv),.slice .imm 6 (n.kids.map zH)]] K st:=by
 have:=zvy hr hk
 rw[Ze] at this
 exact this
theorem zm6 {d:Nat} (hT:TxC d) {l:List Nd} (hd:∀ c∈l,Dep d c) (hf:∀ c∈l,Fit c) (hn:l.length≤100000) {r:Tx} (hr:Yo (zI d) [] l.tail=r) (hl:r.length≤140737488355328) {K:SV→St→Prop} {st:St} (hk:K (.sc (.string (ba r))) st) :
  ACalls Tryz.prog 69 [.slice .imm 6 (List.drop 1 (l.map zH))] K st:=by
 have e:List.drop 1 (l.map zH)=l.tail.map zH:=by cases l <;> rfl
 rw[e]
 exact zuB hT (fun c hc=>hd c (List.mem_of_mem_tail hc)) (fun c hc=>hf c (List.mem_of_mem_tail hc)) (by simp;omega) hr hl hk
theorem Q6:(!(([]:Tx)==[]))=false:=rfl
theorem ZH (T:Nd→Int→Tx) (n:Nd) (lo:Int) (h:qV n=true) (hk:XV n.kind=[]):Qo T n lo=if n.kind=1 then za6 n.num else if n.kind=2 then zau n.text else if n.kind=3 then [40,32,41]
 else if n.kind=4∨n.kind=5∨n.kind=27 then Y6 T lo n.text n.kids
 else if n.kind=24 then [95] else if n.kind=19 then [114,101,116,114,121]
 else if n.kind=6 then Qa [[102,117,110],n.text,[45,62],zA T (qC n 0) lo lo]
 else if n.kind=7 then Qa [zA T (qC n 0) 1 lo,zA T (qC n 1) 0 lo]
 else if n.kind=8 then Qa [Xd T [108,101,116] n lo,[105,110],zA T (qC n 1) lo lo]
 else if n.kind=9 then Qa [Xd T [108,101,116,32,114,101,99] n lo,[105,110],zA T (qC n 1) lo lo]
 else if n.kind=10 then Qa [[105,102],zA T (qC n 0) lo lo,[116,104,101,110],zA T (qC n 1) lo lo,[101,108,115,101],zA T (qC n 2) lo lo]
 else if n.kind=11 then Qa [[109,97,116,99,104],zA T (qC n 0) 7 7,[119,105,116,104]]++Yo T [] n.kids.tail++[32,101,110,100]
 else if n.kind=12 then Qa [[116,114,121],zA T (qC n 0) 7 7,[119,105,116,104],n.text,[45,62],zA T (qC n 1) 7 7,[101,110,100]]
 else if n.kind=13 then opF T n lo
 else if n.kind=14 then Qa [zA T (qC n 0) 5 lo,[59],zA T (qC n 1) 7 7]
 else [36]:=by
 unfold Qo
 rw[if_neg (by rw[h];decide),if_neg (by rw[hk];decide)]
theorem zsp {d:Nat} (hT:TxC d) {n:Nd} (hkd:n.kind=3) (hm:qV n=true) (hd:Dep (d+1) n) (hf:Fit n) {lo:Int} {r:Tx} (hr:Qo (zI d) n lo=r) (hl:r.length≤140737488355328) {K:SV→St→Prop} {st:St} (hk:K (.sc (.string (ba r))) st):ACalls Tryz.prog 45 [zH n,.sc (.int .i64 lo)] K st:=by
 refine zj [] Tryz.func45 rfl Tryz.results45 Tryz.ntmps45 ?_
 have hky:XV n.kind=[]:=by rw[hkd];decide
 rw[ZH _ _ _ hm hky] at hr
 simp only[hkd,Int.reduceEq,if_true,if_false,or_false,false_or,or_true,true_or] at hr
 have D:∀ j:Int,(n.kind==j)=((3:Int)==j):=fun j=>by rw[hkd]
 have hh:=hf.kids.2.1
 simp -implicitDefEqProofs (maxSteps:=3000000) only[go_sem,zc]
 refine Xg hm ?_
 simp -implicitDefEqProofs (maxSteps:=3000000) only[go_sem,zc]
 refine QR hky ?_
 simp -implicitDefEqProofs (maxSteps:=3000000) only[go_sem,zc,D,Int.reduceBEq,Q6]
 subst hr
 exact qo (zB _ _) hk
theorem zof {d:Nat} (hT:TxC d) {n:Nd} (hkd:n.kind=24) (hm:qV n=true) (hd:Dep (d+1) n) (hf:Fit n) {lo:Int} {r:Tx} (hr:Qo (zI d) n lo=r) (hl:r.length≤140737488355328) {K:SV→St→Prop} {st:St} (hk:K (.sc (.string (ba r))) st):ACalls Tryz.prog 45 [zH n,.sc (.int .i64 lo)] K st:=by
 refine zj [] Tryz.func45 rfl Tryz.results45 Tryz.ntmps45 ?_
 have hky:XV n.kind=[]:=by rw[hkd];decide
 rw[ZH _ _ _ hm hky] at hr
 simp only[hkd,Int.reduceEq,if_true,if_false,or_false,false_or,or_true,true_or] at hr
 have D:∀ j:Int,(n.kind==j)=((24:Int)==j):=fun j=>by rw[hkd]
 have hh:=hf.kids.2.1
 simp -implicitDefEqProofs (maxSteps:=3000000) only[go_sem,zc]
 refine Xg hm ?_
 simp -implicitDefEqProofs (maxSteps:=3000000) only[go_sem,zc]
 refine QR hky ?_
 simp -implicitDefEqProofs (maxSteps:=3000000) only[go_sem,zc,D,Int.reduceBEq,Q6]
 subst hr
 exact qo (zB _ _) hk
theorem zpc {d:Nat} (hT:TxC d) {n:Nd} (hkd:n.kind=19) (hm:qV n=true) (hd:Dep (d+1) n) (hf:Fit n) {lo:Int} {r:Tx} (hr:Qo (zI d) n lo=r) (hl:r.length≤140737488355328) {K:SV→St→Prop} {st:St} (hk:K (.sc (.string (ba r))) st):ACalls Tryz.prog 45 [zH n,.sc (.int .i64 lo)] K st:=by
 refine zj [] Tryz.func45 rfl Tryz.results45 Tryz.ntmps45 ?_
 have hky:XV n.kind=[]:=by rw[hkd];decide
 rw[ZH _ _ _ hm hky] at hr
 simp only[hkd,Int.reduceEq,if_true,if_false,or_false,false_or,or_true,true_or] at hr
 have D:∀ j:Int,(n.kind==j)=((19:Int)==j):=fun j=>by rw[hkd]
 have hh:=hf.kids.2.1
 simp -implicitDefEqProofs (maxSteps:=3000000) only[go_sem,zc]
 refine Xg hm ?_
 simp -implicitDefEqProofs (maxSteps:=3000000) only[go_sem,zc]
 refine QR hky ?_
 simp -implicitDefEqProofs (maxSteps:=3000000) only[go_sem,zc,D,Int.reduceBEq,Q6]
 subst hr
 exact qo (zB _ _) hk
theorem zsA {d:Nat} (hT:TxC d) {n:Nd} (hkd:n.kind=4) (hm:qV n=true) (hd:Dep (d+1) n) (hf:Fit n) {lo:Int} {r:Tx} (hr:Qo (zI d) n lo=r) (hl:r.length≤140737488355328) {K:SV→St→Prop} {st:St} (hk:K (.sc (.string (ba r))) st):ACalls Tryz.prog 45 [zH n,.sc (.int .i64 lo)] K st:=by
 refine zj [] Tryz.func45 rfl Tryz.results45 Tryz.ntmps45 ?_
 have hky:XV n.kind=[]:=by rw[hkd];decide
 rw[ZH _ _ _ hm hky] at hr
 simp only[hkd,Int.reduceEq,if_true,if_false,or_false,false_or,or_true,true_or] at hr
 have D:∀ j:Int,(n.kind==j)=((4:Int)==j):=fun j=>by rw[hkd]
 have hh:=hf.kids.2.1
 simp -implicitDefEqProofs (maxSteps:=3000000) only[go_sem,zc]
 refine Xg hm ?_
 simp -implicitDefEqProofs (maxSteps:=3000000) only[go_sem,zc]
 refine QR hky ?_
 simp -implicitDefEqProofs (maxSteps:=3000000) only[go_sem,zc,D,Int.reduceBEq,Q6]
 refine zg4 hT hd.kids hf.kids.1 hh hr hl ?_
 simp only[go_sem]
 exact qo (zB _ _) hk
theorem ztc {d:Nat} (hT:TxC d) {n:Nd} (hkd:n.kind=5) (hm:qV n=true) (hd:Dep (d+1) n) (hf:Fit n) {lo:Int} {r:Tx} (hr:Qo (zI d) n lo=r) (hl:r.length≤140737488355328) {K:SV→St→Prop} {st:St} (hk:K (.sc (.string (ba r))) st):ACalls Tryz.prog 45 [zH n,.sc (.int .i64 lo)] K st:=by
 refine zj [] Tryz.func45 rfl Tryz.results45 Tryz.ntmps45 ?_
 have hky:XV n.kind=[]:=by rw[hkd];decide
 rw[ZH _ _ _ hm hky] at hr
 simp only[hkd,Int.reduceEq,if_true,if_false,or_false,false_or,or_true,true_or] at hr
 have D:∀ j:Int,(n.kind==j)=((5:Int)==j):=fun j=>by rw[hkd]
 have hh:=hf.kids.2.1
 simp -implicitDefEqProofs (maxSteps:=3000000) only[go_sem,zc]
 refine Xg hm ?_
 simp -implicitDefEqProofs (maxSteps:=3000000) only[go_sem,zc]
 refine QR hky ?_
 simp -implicitDefEqProofs (maxSteps:=3000000) only[go_sem,zc,D,Int.reduceBEq,Q6]
 refine zg4 hT hd.kids hf.kids.1 hh hr hl ?_
 simp only[go_sem]
 exact qo (zB _ _) hk
theorem zqV {d:Nat} (hT:TxC d) {n:Nd} (hkd:n.kind=27) (hm:qV n=true) (hd:Dep (d+1) n) (hf:Fit n) {lo:Int} {r:Tx} (hr:Qo (zI d) n lo=r) (hl:r.length≤140737488355328) {K:SV→St→Prop} {st:St} (hk:K (.sc (.string (ba r))) st):ACalls Tryz.prog 45 [zH n,.sc (.int .i64 lo)] K st:=by
 refine zj [] Tryz.func45 rfl Tryz.results45 Tryz.ntmps45 ?_
 have hky:XV n.kind=[]:=by rw[hkd];decide
 rw[ZH _ _ _ hm hky] at hr
 simp only[hkd,Int.reduceEq,if_true,if_false,or_false,false_or,or_true,true_or] at hr
 have D:∀ j:Int,(n.kind==j)=((27:Int)==j):=fun j=>by rw[hkd]
 have hh:=hf.kids.2.1
 simp -implicitDefEqProofs (maxSteps:=3000000) only[go_sem,zc]
 refine Xg hm ?_
 simp -implicitDefEqProofs (maxSteps:=3000000) only[go_sem,zc]
 refine QR hky ?_
 simp -implicitDefEqProofs (maxSteps:=3000000) only[go_sem,zc,D,Int.reduceBEq,Q6]
 refine zg4 hT hd.kids hf.kids.1 hh hr hl ?_
 simp only[go_sem]
 exact qo (zB _ _) hk
theorem zsD {d:Nat} (hT:TxC d) {n:Nd} (hkd:n.kind=6) (hm:qV n=true) (hd:Dep (d+1) n) (hf:Fit n) {lo:Int} {r:Tx} (hr:Qo (zI d) n lo=r) (hl:r.length≤140737488355328) {K:SV→St→Prop} {st:St} (hk:K (.sc (.string (ba r))) st):ACalls Tryz.prog 45 [zH n,.sc (.int .i64 lo)] K st:=by
 refine zj [] Tryz.func45 rfl Tryz.results45 Tryz.ntmps45 ?_
 have hky:XV n.kind=[]:=by rw[hkd];decide
 rw[ZH _ _ _ hm hky] at hr
 simp only[hkd,Int.reduceEq,if_true,if_false,or_false,false_or,or_true,true_or] at hr
 have D:∀ j:Int,(n.kind==j)=((6:Int)==j):=fun j=>by rw[hkd]
 have hh:=hf.kids.2.1
 have hm2:=hm
 unfold qV at hm2
 simp only[hkd,Int.reduceEq,if_true,if_false,or_false,false_or,or_true,true_or,decide_eq_true_eq] at hm2
 have h0:0<n.kids.length:=by omega
 have g0:=Qs h0
 have hl1:=hl
 rw[←hr,QY] at hl1
 simp -implicitDefEqProofs (maxSteps:=3000000) only[go_sem,zc]
 refine Xg hm ?_
 simp -implicitDefEqProofs (maxSteps:=3000000) only[go_sem,zc]
 refine QR hky ?_
 simp -implicitDefEqProofs (maxSteps:=3000000) only[go_sem,zc,D,Int.reduceBEq,Q6]
 refine zS [] Tryz.mixed rfl ?_
 try simp only[go_sem,zc,List.length_map,Int.reduceToNat,g0]
 refine⟨by omega,?_⟩
 rw[zJ]
 refine⟨.sc (.string (ba (zA (zI d) (qC n 0) lo lo))),?_,?_⟩
 ·simp only[go_sem]
  refine q8 hT (Zj hd h0) (Zi hf h0) rfl (by omega) ?_
  exact qn
 try simp only[go_sem,zc,List.length_map,Int.reduceToNat,g0]
 rw[zJ]
 refine⟨.slice .full 1 ([[102,117,110],n.text,[45,62],zA (zI d) (qC n 0) lo lo].map qv),?_,?_⟩
 ·simp only[go_sem]
  exact⟨⟨[],by simp⟩,ZL _ .full (.inr rfl) _ [[102,117,110],n.text,[45,62],zA (zI d) (qC n 0) lo lo],.inl rfl⟩
 try simp only[go_sem,zc,List.length_map,Int.reduceToNat]
 rw[zJ]
 refine⟨.sc (.string (ba (r))),?_,?_⟩
 ·simp only[go_sem]
  refine Qz (l:=[[102,117,110],n.text,[45,62],zA (zI d) (qC n 0) lo lo]) (by simp) (by simp) hr hl ?_
  exact qn
 try simp only[go_sem,zc,List.length_map,Int.reduceToNat]
 exact qo (zB _ _) hk
theorem zsh {d:Nat} (hT:TxC d) {n:Nd} (hkd:n.kind=7) (hm:qV n=true) (hd:Dep (d+1) n) (hf:Fit n) {lo:Int} {r:Tx} (hr:Qo (zI d) n lo=r) (hl:r.length≤140737488355328) {K:SV→St→Prop} {st:St} (hk:K (.sc (.string (ba r))) st):ACalls Tryz.prog 45 [zH n,.sc (.int .i64 lo)] K st:=by
 refine zj [] Tryz.func45 rfl Tryz.results45 Tryz.ntmps45 ?_
 have hky:XV n.kind=[]:=by rw[hkd];decide
 rw[ZH _ _ _ hm hky] at hr
 simp only[hkd,Int.reduceEq,if_true,if_false,or_false,false_or,or_true,true_or] at hr
 have D:∀ j:Int,(n.kind==j)=((7:Int)==j):=fun j=>by rw[hkd]
 have hh:=hf.kids.2.1
 have hm2:=hm
 unfold qV at hm2
 simp only[hkd,Int.reduceEq,if_true,if_false,or_false,false_or,or_true,true_or,decide_eq_true_eq] at hm2
 have h0:0<n.kids.length:=by omega
 have g0:=Qs h0
 have h1:1<n.kids.length:=by omega
 have g1:=Qs h1
 have hl1:=hl
 rw[←hr,ZR] at hl1
 simp -implicitDefEqProofs (maxSteps:=3000000) only[go_sem,zc]
 refine Xg hm ?_
 simp -implicitDefEqProofs (maxSteps:=3000000) only[go_sem,zc]
 refine QR hky ?_
 simp -implicitDefEqProofs (maxSteps:=3000000) only[go_sem,zc,D,Int.reduceBEq,Q6]
 refine zS [] Tryz.mixed rfl ?_
 try simp only[go_sem,zc,List.length_map,Int.reduceToNat,g0,g1]
 refine⟨by omega,?_⟩
 rw[zJ]
 refine⟨.sc (.string (ba (zA (zI d) (qC n 0) 1 lo))),?_,?_⟩
 ·simp only[go_sem]
  refine q8 hT (Zj hd h0) (Zi hf h0) rfl (by omega) ?_
  exact qn
 try simp only[go_sem,zc,List.length_map,Int.reduceToNat,g0,g1]
 refine⟨by omega,?_⟩
 rw[zJ]
 refine⟨.sc (.string (ba (zA (zI d) (qC n 1) 0 lo))),?_,?_⟩
 ·simp only[go_sem]
  refine q8 hT (Zj hd h1) (Zi hf h1) rfl (by omega) ?_
  exact qn
 try simp only[go_sem,zc,List.length_map,Int.reduceToNat,g0,g1]
 rw[zJ]
 refine⟨.slice .full 1 ([zA (zI d) (qC n 0) 1 lo,zA (zI d) (qC n 1) 0 lo].map qv),?_,?_⟩
 ·simp only[go_sem]
  exact⟨⟨[],by simp⟩,ZL _ .full (.inr rfl) _ [zA (zI d) (qC n 0) 1 lo,zA (zI d) (qC n 1) 0 lo],.inl rfl⟩
 try simp only[go_sem,zc,List.length_map,Int.reduceToNat]
 rw[zJ]
 refine⟨.sc (.string (ba (r))),?_,?_⟩
 ·simp only[go_sem]
  refine Qz (l:=[zA (zI d) (qC n 0) 1 lo,zA (zI d) (qC n 1) 0 lo]) (by simp) (by simp) hr hl ?_
  exact qn
 try simp only[go_sem,zc,List.length_map,Int.reduceToNat]
 exact qo (zB _ _) hk
theorem zs9 {d:Nat} (hT:TxC d) {n:Nd} (hkd:n.kind=8) (hm:qV n=true) (hd:Dep (d+1) n) (hf:Fit n) {lo:Int} {r:Tx} (hr:Qo (zI d) n lo=r) (hl:r.length≤140737488355328) {K:SV→St→Prop} {st:St} (hk:K (.sc (.string (ba r))) st):ACalls Tryz.prog 45 [zH n,.sc (.int .i64 lo)] K st:=by
 refine zj [] Tryz.func45 rfl Tryz.results45 Tryz.ntmps45 ?_
 have hky:XV n.kind=[]:=by rw[hkd];decide
 rw[ZH _ _ _ hm hky] at hr
 simp only[hkd,Int.reduceEq,if_true,if_false,or_false,false_or,or_true,true_or] at hr
 have D:∀ j:Int,(n.kind==j)=((8:Int)==j):=fun j=>by rw[hkd]
 have hh:=hf.kids.2.1
 have hm2:=hm
 unfold qV at hm2
 simp only[hkd,Int.reduceEq,if_true,if_false,or_false,false_or,or_true,true_or,decide_eq_true_eq] at hm2
 have h0:0<n.kids.length:=by omega
 have g0:=Qs h0
 have h1:1<n.kids.length:=by omega
 have g1:=Qs h1
 have hl1:=hl
 rw[←hr,Z0] at hl1
 simp -implicitDefEqProofs (maxSteps:=3000000) only[go_sem,zc]
 refine Xg hm ?_
 simp -implicitDefEqProofs (maxSteps:=3000000) only[go_sem,zc]
 refine QR hky ?_
 simp -implicitDefEqProofs (maxSteps:=3000000) only[go_sem,zc,D,Int.reduceBEq,Q6]
 refine zS [] Tryz.mixed rfl ?_
 try simp only[go_sem,zc,List.length_map,Int.reduceToNat,g0,g1]
 rw[zJ]
 refine⟨.sc (.string (ba (Xd (zI d) [108,101,116] n lo))),?_,?_⟩
 ·simp only[go_sem]
  refine zmd hT hd hf h0 rfl rfl (by omega) ?_
  exact qn
 try simp only[go_sem,zc,List.length_map,Int.reduceToNat,g0,g1]
 refine⟨by omega,?_⟩
 rw[zJ]
 refine⟨.sc (.string (ba (zA (zI d) (qC n 1) lo lo))),?_,?_⟩
 ·simp only[go_sem]
  refine q8 hT (Zj hd h1) (Zi hf h1) rfl (by omega) ?_
  exact qn
 try simp only[go_sem,zc,List.length_map,Int.reduceToNat,g0,g1]
 rw[zJ]
 refine⟨.slice .full 1 ([Xd (zI d) [108,101,116] n lo,[105,110],zA (zI d) (qC n 1) lo lo].map qv),?_,?_⟩
 ·simp only[go_sem]
  exact⟨⟨[],by simp⟩,ZL _ .full (.inr rfl) _ [Xd (zI d) [108,101,116] n lo,[105,110],zA (zI d) (qC n 1) lo lo],.inl rfl⟩
 try simp only[go_sem,zc,List.length_map,Int.reduceToNat]
 rw[zJ]
 refine⟨.sc (.string (ba (r))),?_,?_⟩
 ·simp only[go_sem]
  refine Qz (l:=[Xd (zI d) [108,101,116] n lo,[105,110],zA (zI d) (qC n 1) lo lo]) (by simp) (by simp) hr hl ?_
  exact qn
 try simp only[go_sem,zc,List.length_map,Int.reduceToNat]
 exact qo (zB _ _) hk
theorem zrZ {d:Nat} (hT:TxC d) {n:Nd} (hkd:n.kind=9) (hm:qV n=true) (hd:Dep (d+1) n) (hf:Fit n) {lo:Int} {r:Tx} (hr:Qo (zI d) n lo=r) (hl:r.length≤140737488355328) {K:SV→St→Prop} {st:St} (hk:K (.sc (.string (ba r))) st):ACalls Tryz.prog 45 [zH n,.sc (.int .i64 lo)] K st:=by
 refine zj [] Tryz.func45 rfl Tryz.results45 Tryz.ntmps45 ?_
 have hky:XV n.kind=[]:=by rw[hkd];decide
 rw[ZH _ _ _ hm hky] at hr
 simp only[hkd,Int.reduceEq,if_true,if_false,or_false,false_or,or_true,true_or] at hr
 have D:∀ j:Int,(n.kind==j)=((9:Int)==j):=fun j=>by rw[hkd]
 have hh:=hf.kids.2.1
 have hm2:=hm
 unfold qV at hm2
 simp only[hkd,Int.reduceEq,if_true,if_false,or_false,false_or,or_true,true_or,decide_eq_true_eq] at hm2
 have h0:0<n.kids.length:=by omega
 have g0:=Qs h0
 have h1:1<n.kids.length:=by omega
 have g1:=Qs h1
 have hl1:=hl
 rw[←hr,Z0] at hl1
 simp -implicitDefEqProofs (maxSteps:=3000000) only[go_sem,zc]
 refine Xg hm ?_
 simp -implicitDefEqProofs (maxSteps:=3000000) only[go_sem,zc]
 refine QR hky ?_
 simp -implicitDefEqProofs (maxSteps:=3000000) only[go_sem,zc,D,Int.reduceBEq,Q6]
 refine zS [] Tryz.mixed rfl ?_
 try simp only[go_sem,zc,List.length_map,Int.reduceToNat,g0,g1]
 rw[zJ]
 refine⟨.sc (.string (ba (Xd (zI d) [108,101,116,32,114,101,99] n lo))),?_,?_⟩
 ·simp only[go_sem]
  refine zmd hT hd hf h0 rfl rfl (by omega) ?_
  exact qn
 try simp only[go_sem,zc,List.length_map,Int.reduceToNat,g0,g1]
 refine⟨by omega,?_⟩
 rw[zJ]
 refine⟨.sc (.string (ba (zA (zI d) (qC n 1) lo lo))),?_,?_⟩
 ·simp only[go_sem]
  refine q8 hT (Zj hd h1) (Zi hf h1) rfl (by omega) ?_
  exact qn
 try simp only[go_sem,zc,List.length_map,Int.reduceToNat,g0,g1]
 rw[zJ]
 refine⟨.slice .full 1 ([Xd (zI d) [108,101,116,32,114,101,99] n lo,[105,110],zA (zI d) (qC n 1) lo lo].map qv),?_,?_⟩
 ·simp only[go_sem]
  exact⟨⟨[],by simp⟩,ZL _ .full (.inr rfl) _ [Xd (zI d) [108,101,116,32,114,101,99] n lo,[105,110],zA (zI d) (qC n 1) lo lo],.inl rfl⟩
 try simp only[go_sem,zc,List.length_map,Int.reduceToNat]
 rw[zJ]
 refine⟨.sc (.string (ba (r))),?_,?_⟩
 ·simp only[go_sem]
  refine Qz (l:=[Xd (zI d) [108,101,116,32,114,101,99] n lo,[105,110],zA (zI d) (qC n 1) lo lo]) (by simp) (by simp) hr hl ?_
  exact qn
 try simp only[go_sem,zc,List.length_map,Int.reduceToNat]
 exact qo (zB _ _) hk
theorem zqd {d:Nat} (hT:TxC d) {n:Nd} (hkd:n.kind=10) (hm:qV n=true) (hd:Dep (d+1) n) (hf:Fit n) {lo:Int} {r:Tx} (hr:Qo (zI d) n lo=r) (hl:r.length≤140737488355328) {K:SV→St→Prop} {st:St} (hk:K (.sc (.string (ba r))) st):ACalls Tryz.prog 45 [zH n,.sc (.int .i64 lo)] K st:=by
 refine zj [] Tryz.func45 rfl Tryz.results45 Tryz.ntmps45 ?_
 have hky:XV n.kind=[]:=by rw[hkd];decide
 rw[ZH _ _ _ hm hky] at hr
 simp only[hkd,Int.reduceEq,if_true,if_false,or_false,false_or,or_true,true_or] at hr
 have D:∀ j:Int,(n.kind==j)=((10:Int)==j):=fun j=>by rw[hkd]
 have hh:=hf.kids.2.1
 have hm2:=hm
 unfold qV at hm2
 simp only[hkd,Int.reduceEq,if_true,if_false,or_false,false_or,or_true,true_or,decide_eq_true_eq] at hm2
 have h0:0<n.kids.length:=by omega
 have g0:=Qs h0
 have h1:1<n.kids.length:=by omega
 have g1:=Qs h1
 have h2:2<n.kids.length:=by omega
 have g2:=Qs h2
 have hl1:=hl
 rw[←hr,ziK] at hl1
 simp -implicitDefEqProofs (maxSteps:=3000000) only[go_sem,zc]
 refine Xg hm ?_
 simp -implicitDefEqProofs (maxSteps:=3000000) only[go_sem,zc]
 refine QR hky ?_
 simp -implicitDefEqProofs (maxSteps:=3000000) only[go_sem,zc,D,Int.reduceBEq,Q6]
 refine zS [] Tryz.mixed rfl ?_
 try simp only[go_sem,zc,List.length_map,Int.reduceToNat,g0,g1,g2]
 refine⟨by omega,?_⟩
 rw[zJ]
 refine⟨.sc (.string (ba (zA (zI d) (qC n 0) lo lo))),?_,?_⟩
 ·simp only[go_sem]
  refine q8 hT (Zj hd h0) (Zi hf h0) rfl (by omega) ?_
  exact qn
 try simp only[go_sem,zc,List.length_map,Int.reduceToNat,g0,g1,g2]
 refine⟨by omega,?_⟩
 rw[zJ]
 refine⟨.sc (.string (ba (zA (zI d) (qC n 1) lo lo))),?_,?_⟩
 ·simp only[go_sem]
  refine q8 hT (Zj hd h1) (Zi hf h1) rfl (by omega) ?_
  exact qn
 try simp only[go_sem,zc,List.length_map,Int.reduceToNat,g0,g1,g2]
 refine⟨by omega,?_⟩
 rw[zJ]
 refine⟨.sc (.string (ba (zA (zI d) (qC n 2) lo lo))),?_,?_⟩
 ·simp only[go_sem]
  refine q8 hT (Zj hd h2) (Zi hf h2) rfl (by omega) ?_
  exact qn
 try simp only[go_sem,zc,List.length_map,Int.reduceToNat,g0,g1,g2]
 rw[zJ]
 refine⟨.slice .full 1 ([[105,102],zA (zI d) (qC n 0) lo lo,[116,104,101,110],zA (zI d) (qC n 1) lo lo,[101,108,115,101],zA (zI d) (qC n 2) lo lo].map qv),?_,?_⟩
 ·simp only[go_sem]
  exact⟨⟨[],by simp⟩,ZL _ .full (.inr rfl) _ [[105,102],zA (zI d) (qC n 0) lo lo,[116,104,101,110],zA (zI d) (qC n 1) lo lo,[101,108,115,101],zA (zI d) (qC n 2) lo lo],.inl rfl⟩
 try simp only[go_sem,zc,List.length_map,Int.reduceToNat]
 rw[zJ]
 refine⟨.sc (.string (ba (r))),?_,?_⟩
 ·simp only[go_sem]
  refine Qz (l:=[[105,102],zA (zI d) (qC n 0) lo lo,[116,104,101,110],zA (zI d) (qC n 1) lo lo,[101,108,115,101],zA (zI d) (qC n 2) lo lo]) (by simp) (by simp) hr hl ?_
  exact qn
 try simp only[go_sem,zc,List.length_map,Int.reduceToNat]
 exact qo (zB _ _) hk
theorem zp6 {d:Nat} (hT:TxC d) {n:Nd} (hkd:n.kind=12) (hm:qV n=true) (hd:Dep (d+1) n) (hf:Fit n) {lo:Int} {r:Tx} (hr:Qo (zI d) n lo=r) (hl:r.length≤140737488355328) {K:SV→St→Prop} {st:St} (hk:K (.sc (.string (ba r))) st):ACalls Tryz.prog 45 [zH n,.sc (.int .i64 lo)] K st:=by
 refine zj [] Tryz.func45 rfl Tryz.results45 Tryz.ntmps45 ?_
 have hky:XV n.kind=[]:=by rw[hkd];decide
 rw[ZH _ _ _ hm hky] at hr
 simp only[hkd,Int.reduceEq,if_true,if_false,or_false,false_or,or_true,true_or] at hr
 have D:∀ j:Int,(n.kind==j)=((12:Int)==j):=fun j=>by rw[hkd]
 have hh:=hf.kids.2.1
 have hm2:=hm
 unfold qV at hm2
 simp only[hkd,Int.reduceEq,if_true,if_false,or_false,false_or,or_true,true_or,decide_eq_true_eq] at hm2
 have h0:0<n.kids.length:=by omega
 have g0:=Qs h0
 have h1:1<n.kids.length:=by omega
 have g1:=Qs h1
 have hl1:=hl
 rw[←hr,zjZ] at hl1
 simp -implicitDefEqProofs (maxSteps:=3000000) only[go_sem,zc]
 refine Xg hm ?_
 simp -implicitDefEqProofs (maxSteps:=3000000) only[go_sem,zc]
 refine QR hky ?_
 simp -implicitDefEqProofs (maxSteps:=3000000) only[go_sem,zc,D,Int.reduceBEq,Q6]
 refine zS [] Tryz.mixed rfl ?_
 try simp only[go_sem,zc,List.length_map,Int.reduceToNat,g0,g1]
 refine⟨by omega,?_⟩
 rw[zJ]
 refine⟨.sc (.string (ba (zA (zI d) (qC n 0) 7 7))),?_,?_⟩
 ·simp only[go_sem]
  refine q8 hT (Zj hd h0) (Zi hf h0) rfl (by omega) ?_
  exact qn
 try simp only[go_sem,zc,List.length_map,Int.reduceToNat,g0,g1]
 refine⟨by omega,?_⟩
 rw[zJ]
 refine⟨.sc (.string (ba (zA (zI d) (qC n 1) 7 7))),?_,?_⟩
 ·simp only[go_sem]
  refine q8 hT (Zj hd h1) (Zi hf h1) rfl (by omega) ?_
  exact qn
 try simp only[go_sem,zc,List.length_map,Int.reduceToNat,g0,g1]
 rw[zJ]
 refine⟨.slice .full 1 ([[116,114,121],zA (zI d) (qC n 0) 7 7,[119,105,116,104],n.text,[45,62],zA (zI d) (qC n 1) 7 7,[101,110,100]].map qv),?_,?_⟩
 ·simp only[go_sem]
  exact⟨⟨[],by simp⟩,ZL _ .full (.inr rfl) _ [[116,114,121],zA (zI d) (qC n 0) 7 7,[119,105,116,104],n.text,[45,62],zA (zI d) (qC n 1) 7 7,[101,110,100]],.inl rfl⟩
 try simp only[go_sem,zc,List.length_map,Int.reduceToNat]
 rw[zJ]
 refine⟨.sc (.string (ba (r))),?_,?_⟩
 ·simp only[go_sem]
  refine Qz (l:=[[116,114,121],zA (zI d) (qC n 0) 7 7,[119,105,116,104],n.text,[45,62],zA (zI d) (qC n 1) 7 7,[101,110,100]]) (by simp) (by simp) hr hl ?_
  exact qn
 try simp only[go_sem,zc,List.length_map,Int.reduceToNat]
 exact qo (zB _ _) hk
theorem zqc {d:Nat} (hT:TxC d) {n:Nd} (hkd:n.kind=13) (hm:qV n=true) (hd:Dep (d+1) n) (hf:Fit n) {lo:Int} {r:Tx} (hr:Qo (zI d) n lo=r) (hl:r.length≤140737488355328) {K:SV→St→Prop} {st:St} (hk:K (.sc (.string (ba r))) st):ACalls Tryz.prog 45 [zH n,.sc (.int .i64 lo)] K st:=by
 refine zj [] Tryz.func45 rfl Tryz.results45 Tryz.ntmps45 ?_
 have hky:XV n.kind=[]:=by rw[hkd];decide
 rw[ZH _ _ _ hm hky] at hr
 simp only[hkd,Int.reduceEq,if_true,if_false,or_false,false_or,or_true,true_or] at hr
 have D:∀ j:Int,(n.kind==j)=((13:Int)==j):=fun j=>by rw[hkd]
 have hh:=hf.kids.2.1
 have hm2:=hm
 unfold qV at hm2
 simp only[hkd,Int.reduceEq,if_true,if_false,or_false,false_or,or_true,true_or,decide_eq_true_eq] at hm2
 have h0:0<n.kids.length:=by omega
 have h1:1<n.kids.length:=by omega
 simp -implicitDefEqProofs (maxSteps:=3000000) only[go_sem,zc]
 refine Xg hm ?_
 simp -implicitDefEqProofs (maxSteps:=3000000) only[go_sem,zc]
 refine QR hky ?_
 simp -implicitDefEqProofs (maxSteps:=3000000) only[go_sem,zc,D,Int.reduceBEq,Q6]
 refine OpA hT hd hf h1 hr hl ?_
 simp only[go_sem]
 exact qo (zB _ _) hk
theorem zpz {d:Nat} (hT:TxC d) {n:Nd} (hkd:n.kind=14) (hm:qV n=true) (hd:Dep (d+1) n) (hf:Fit n) {lo:Int} {r:Tx} (hr:Qo (zI d) n lo=r) (hl:r.length≤140737488355328) {K:SV→St→Prop} {st:St} (hk:K (.sc (.string (ba r))) st):ACalls Tryz.prog 45 [zH n,.sc (.int .i64 lo)] K st:=by
 refine zj [] Tryz.func45 rfl Tryz.results45 Tryz.ntmps45 ?_
 have hky:XV n.kind=[]:=by rw[hkd];decide
 rw[ZH _ _ _ hm hky] at hr
 simp only[hkd,Int.reduceEq,if_true,if_false,or_false,false_or,or_true,true_or] at hr
 have D:∀ j:Int,(n.kind==j)=((14:Int)==j):=fun j=>by rw[hkd]
 have hh:=hf.kids.2.1
 have hm2:=hm
 unfold qV at hm2
 simp only[hkd,Int.reduceEq,if_true,if_false,or_false,false_or,or_true,true_or,decide_eq_true_eq] at hm2
 have h0:0<n.kids.length:=by omega
 have g0:=Qs h0
 have h1:1<n.kids.length:=by omega
 have g1:=Qs h1
 have hl1:=hl
 rw[←hr,Z0] at hl1
 simp -implicitDefEqProofs (maxSteps:=3000000) only[go_sem,zc]
 refine Xg hm ?_
 simp -implicitDefEqProofs (maxSteps:=3000000) only[go_sem,zc]
 refine QR hky ?_
 simp -implicitDefEqProofs (maxSteps:=3000000) only[go_sem,zc,D,Int.reduceBEq,Q6]
 refine zS [] Tryz.mixed rfl ?_
 try simp only[go_sem,zc,List.length_map,Int.reduceToNat,g0,g1]
 refine⟨by omega,?_⟩
 rw[zJ]
 refine⟨.sc (.string (ba (zA (zI d) (qC n 0) 5 lo))),?_,?_⟩
 ·simp only[go_sem]
  refine q8 hT (Zj hd h0) (Zi hf h0) rfl (by omega) ?_
  exact qn
 try simp only[go_sem,zc,List.length_map,Int.reduceToNat,g0,g1]
 refine⟨by omega,?_⟩
 rw[zJ]
 refine⟨.sc (.string (ba (zA (zI d) (qC n 1) 7 7))),?_,?_⟩
 ·simp only[go_sem]
  refine q8 hT (Zj hd h1) (Zi hf h1) rfl (by omega) ?_
  exact qn
 try simp only[go_sem,zc,List.length_map,Int.reduceToNat,g0,g1]
 rw[zJ]
 refine⟨.slice .full 1 ([zA (zI d) (qC n 0) 5 lo,[59],zA (zI d) (qC n 1) 7 7].map qv),?_,?_⟩
 ·simp only[go_sem]
  exact⟨⟨[],by simp⟩,ZL _ .full (.inr rfl) _ [zA (zI d) (qC n 0) 5 lo,[59],zA (zI d) (qC n 1) 7 7],.inl rfl⟩
 try simp only[go_sem,zc,List.length_map,Int.reduceToNat]
 rw[zJ]
 refine⟨.sc (.string (ba (r))),?_,?_⟩
 ·simp only[go_sem]
  refine Qz (l:=[zA (zI d) (qC n 0) 5 lo,[59],zA (zI d) (qC n 1) 7 7]) (by simp) (by simp) hr hl ?_
  exact qn
 try simp only[go_sem,zc,List.length_map,Int.reduceToNat]
 exact qo (zB _ _) hk
theorem zpW {d:Nat} (hT:TxC d) {n:Nd} (hkd:n.kind=11) (hm:qV n=true) (hd:Dep (d+1) n) (hf:Fit n) {lo:Int} {r:Tx} (hr:Qo (zI d) n lo=r) (hl:r.length≤140737488355328) {K:SV→St→Prop} {st:St} (hk:K (.sc (.string (ba r))) st):ACalls Tryz.prog 45 [zH n,.sc (.int .i64 lo)] K st:=by
 refine zj [] Tryz.func45 rfl Tryz.results45 Tryz.ntmps45 ?_
 have hky:XV n.kind=[]:=by rw[hkd];decide
 rw[ZH _ _ _ hm hky] at hr
 simp only[hkd,Int.reduceEq,if_true,if_false,or_false,false_or,or_true,true_or] at hr
 have D:∀ j:Int,(n.kind==j)=((11:Int)==j):=fun j=>by rw[hkd]
 have hh:=hf.kids.2.1
 have hm2:=hm
 unfold qV at hm2
 simp only[hkd,Int.reduceEq,if_true,if_false,or_false,false_or,or_true,true_or,decide_eq_true_eq] at hm2
 have h0:0<n.kids.length:=by omega
 have g0:=Qs h0
 have hl1:=hl
 rw[←hr,List.length_append,List.length_append,Z0] at hl1
 have hl2:(Qa [[109,97,116,99,104],zA (zI d) (qC n 0) 7 7,[119,105,116,104]]).length≤140737488355328:=by rw[Z0];omega
 simp -implicitDefEqProofs (maxSteps:=3000000) only[go_sem,zc]
 refine Xg hm ?_
 simp -implicitDefEqProofs (maxSteps:=3000000) only[go_sem,zc]
 refine QR hky ?_
 simp -implicitDefEqProofs (maxSteps:=3000000) only[go_sem,zc,D,Int.reduceBEq,Q6]
 refine zS [] Tryz.mixed rfl ?_
 try simp only[go_sem,zc,List.length_map,Int.reduceToNat,g0]
 refine⟨by omega,?_⟩
 rw[zJ]
 refine⟨.sc (.string (ba (zA (zI d) (qC n 0) 7 7))),?_,?_⟩
 ·simp only[go_sem]
  refine q8 hT (Zj hd h0) (Zi hf h0) rfl (by omega) ?_
  exact qn
 try simp only[go_sem,zc,List.length_map,Int.reduceToNat,g0]
 rw[zJ]
 refine⟨.slice .full 1 ([[109,97,116,99,104],zA (zI d) (qC n 0) 7 7,[119,105,116,104]].map qv),?_,?_⟩
 ·simp only[go_sem]
  exact⟨⟨[],by simp⟩,ZL _ .full (.inr rfl) _ [[109,97,116,99,104],zA (zI d) (qC n 0) 7 7,[119,105,116,104]],.inl rfl⟩
 try simp only[go_sem,zc,List.length_map,Int.reduceToNat]
 rw[zJ]
 refine⟨.sc (.string (ba (Qa [[109,97,116,99,104],zA (zI d) (qC n 0) 7 7,[119,105,116,104]]))),?_,?_⟩
 ·simp only[go_sem]
  refine Qz (l:=[[109,97,116,99,104],zA (zI d) (qC n 0) 7 7,[119,105,116,104]]) (by simp) (by simp) rfl hl2 ?_
  exact qn
 try simp only[go_sem,zc,List.length_map,Int.reduceToNat]
 refine⟨by omega,?_⟩
 rw[zJ]
 refine⟨.sc (.string (ba (Yo (zI d) [] n.kids.tail))),?_,?_⟩
 ·simp only[go_sem]
  refine zm6 hT hd.kids hf.kids.1 hh rfl (by omega) ?_
  exact qn
 try simp only[go_sem,zc,List.length_map,Int.reduceToNat]
 have e:ba (Qa [[109,97,116,99,104],zA (zI d) (qC n 0) 7 7,[119,105,116,104]])++ba (Yo (zI d) [] n.kids.tail)++(⟨#[32,101,110,100]⟩:ByteArray)=ba r:=by
  rw[show (⟨#[32,101,110,100]⟩:ByteArray)=ba [32,101,110,100] from rfl,zfb,zfb,hr]
 rw[e]
 refine⟨?_,?_,qo (zB _ _) hk⟩
 ·simp only[List.size_toArray];omega
 ·simp only[List.size_toArray,List.length_cons,List.length_nil] at hl1 ⊢;omega
theorem zsO {d:Nat} (hT:TxC d) {n:Nd} (hkd:n.kind=1) (hm:qV n=true) (hd:Dep (d+1) n) (hf:Fit n) {lo:Int} {r:Tx} (hr:Qo (zI d) n lo=r) (hl:r.length≤140737488355328) {K:SV→St→Prop} {st:St} (hk:K (.sc (.string (ba r))) st):ACalls Tryz.prog 45 [zH n,.sc (.int .i64 lo)] K st:=by
 refine zj [] Tryz.func45 rfl Tryz.results45 Tryz.ntmps45 ?_
 have hky:XV n.kind=[]:=by rw[hkd];decide
 rw[ZH _ _ _ hm hky] at hr
 simp only[hkd,Int.reduceEq,if_true,if_false,or_false,false_or,or_true,true_or] at hr
 have D:∀ j:Int,(n.kind==j)=((1:Int)==j):=fun j=>by rw[hkd]
 have hh:=hf.kids.2.1
 simp -implicitDefEqProofs (maxSteps:=3000000) only[go_sem,zc]
 refine Xg hm ?_
 simp -implicitDefEqProofs (maxSteps:=3000000) only[go_sem,zc]
 refine QR hky ?_
 simp -implicitDefEqProofs (maxSteps:=3000000) only[go_sem,zc,D,Int.reduceBEq,Q6]
 refine zuh ?_
 simp only[go_sem]
 subst hr
 exact qo (zB _ _) hk
theorem zrB {d:Nat} (hT:TxC d) {n:Nd} (hkd:n.kind=2) (hm:qV n=true) (hd:Dep (d+1) n) (hf:Fit n) {lo:Int} {r:Tx} (hr:Qo (zI d) n lo=r) (hl:r.length≤140737488355328) {K:SV→St→Prop} {st:St} (hk:K (.sc (.string (ba r))) st):ACalls Tryz.prog 45 [zH n,.sc (.int .i64 lo)] K st:=by
 refine zj [] Tryz.func45 rfl Tryz.results45 Tryz.ntmps45 ?_
 have hky:XV n.kind=[]:=by rw[hkd];decide
 rw[ZH _ _ _ hm hky] at hr
 simp only[hkd,Int.reduceEq,if_true,if_false,or_false,false_or,or_true,true_or] at hr
 have D:∀ j:Int,(n.kind==j)=((2:Int)==j):=fun j=>by rw[hkd]
 have hh:=hf.kids.2.1
 simp -implicitDefEqProofs (maxSteps:=3000000) only[go_sem,zc]
 refine Xg hm ?_
 simp -implicitDefEqProofs (maxSteps:=3000000) only[go_sem,zc]
 refine QR hky ?_
 simp -implicitDefEqProofs (maxSteps:=3000000) only[go_sem,zc,D,Int.reduceBEq,Q6]
 refine ztn hf.kids.2.2.2 ?_
 simp only[go_sem]
 subst hr
 exact qo (zB _ _) hk
theorem zth {d:Nat} (hT:TxC d) {n:Nd} (hm:qV n=false) (hd:Dep (d+1) n) (hf:Fit n) {lo:Int} {r:Tx} (hr:Qo (zI d) n lo=r) (hl:r.length≤140737488355328) {K:SV→St→Prop} {st:St} (hk:K (.sc (.string (ba r))) st):ACalls Tryz.prog 45 [zH n,.sc (.int .i64 lo)] K st:=by
 refine zj [] Tryz.func45 rfl Tryz.results45 Tryz.ntmps45 ?_
 unfold Qo at hr
 rw[if_pos hm] at hr
 subst hr
 simp -implicitDefEqProofs (maxSteps:=3000000) only[go_sem,zc]
 refine Xg hm ?_
 simp -implicitDefEqProofs (maxSteps:=3000000) only[go_sem,zc]
 exact qo (zB _ _) hk
theorem zrv {d:Nat} (hT:TxC d) {n:Nd} (hm:qV n=true) (hky:XV n.kind≠[]) (hd:Dep (d+1) n) (hf:Fit n) {lo:Int} {r:Tx} (hr:Qo (zI d) n lo=r) (hl:r.length≤140737488355328) {K:SV→St→Prop} {st:St} (hk:K (.sc (.string (ba r))) st):ACalls Tryz.prog 45 [zH n,.sc (.int .i64 lo)] K st:=by
 refine zj [] Tryz.func45 rfl Tryz.results45 Tryz.ntmps45 ?_
 unfold Qo at hr
 rw[if_neg (by rw[hm];decide),if_pos hky] at hr
 have e:(!(XV n.kind==[]))=true:=by simp[hky]
 simp -implicitDefEqProofs (maxSteps:=3000000) only[go_sem,zc]
 refine Xg hm ?_
 simp -implicitDefEqProofs (maxSteps:=3000000) only[go_sem,zc]
 refine QR rfl ?_
 simp -implicitDefEqProofs (maxSteps:=3000000) only[go_sem,zc,e,Xk]
 refine zg4 hT hd.kids hf.kids.1 hf.kids.2.1 hr hl ?_
 simp only[go_sem]
 exact qo (zB _ _) hk
theorem zry {d:Nat} (hT:TxC d) {n:Nd} (hm:qV n=true) (hky:XV n.kind=[]) (d1:n.kind≠1) (d2:n.kind≠2) (d3:n.kind≠3) (d4:n.kind≠4) (d5:n.kind≠5) (d27:n.kind≠27) (d24:n.kind≠24) (d19:n.kind≠19) (d6:n.kind≠6) (d7:n.kind≠7) (d8:n.kind≠8) (d9:n.kind≠9) (d10:n.kind≠10) (d11:n.kind≠11) (d12:n.kind≠12) (d13:n.kind≠13) (d14:n.kind≠14) (hd:Dep (d+1) n) (hf:Fit n) {lo:Int} {r:Tx} (hr:Qo (zI d) n lo=r) (hl:r.length≤140737488355328) {K:SV→St→Prop} {st:St} (hk:K (.sc (.string (ba r))) st):ACalls Tryz.prog 45 [zH n,.sc (.int .i64 lo)] K st:=by
 refine zj [] Tryz.func45 rfl Tryz.results45 Tryz.ntmps45 ?_
 rw[ZH _ _ _ hm hky] at hr
 simp only[d1,d2,d3,d4,d5,d27,d24,d19,d6,d7,d8,d9,d10,d11,d12,d13,d14,if_false,or_self] at hr
 subst hr
 have e1:(n.kind==1)=false:=by simp[d1]
 have e2:(n.kind==2)=false:=by simp[d2]
 have e3:(n.kind==3)=false:=by simp[d3]
 have e4:(n.kind==4)=false:=by simp[d4]
 have e5:(n.kind==5)=false:=by simp[d5]
 have e27:(n.kind==27)=false:=by simp[d27]
 have e24:(n.kind==24)=false:=by simp[d24]
 have e19:(n.kind==19)=false:=by simp[d19]
 have e6:(n.kind==6)=false:=by simp[d6]
 have e7:(n.kind==7)=false:=by simp[d7]
 have e8:(n.kind==8)=false:=by simp[d8]
 have e9:(n.kind==9)=false:=by simp[d9]
 have e10:(n.kind==10)=false:=by simp[d10]
 have e11:(n.kind==11)=false:=by simp[d11]
 have e12:(n.kind==12)=false:=by simp[d12]
 have e13:(n.kind==13)=false:=by simp[d13]
 have e14:(n.kind==14)=false:=by simp[d14]
 simp -implicitDefEqProofs (maxSteps:=3000000) only[go_sem,zc]
 refine Xg hm ?_
 simp -implicitDefEqProofs (maxSteps:=3000000) only[go_sem,zc]
 refine QR hky ?_
 simp -implicitDefEqProofs (maxSteps:=3000000) only[go_sem,zc,Q6,e1,e2,e3,e4,e5,e27,e24,e19,e6,e7,e8,e9,e10,e11,e12,e13,e14]
 exact qo (zB _ _) hk
theorem zsS {d:Nat} (hT:TxC d):TxC (d+1):=by
 intro n lo r hd hf hr hl K st hk
 have hr:Qo (zI d) n lo=r:=hr
 cases hm:qV n with
 | false=>exact zth hT hm hd hf hr hl hk
 | true =>
 by_cases hky:XV n.kind=[]
 rotate_left
 ·exact zrv hT hm hky hd hf hr hl hk
 by_cases c1:n.kind=1
 ·exact zsO hT c1 hm hd hf hr hl hk
 by_cases c2:n.kind=2
 ·exact zrB hT c2 hm hd hf hr hl hk
 by_cases c3:n.kind=3
 ·exact zsp hT c3 hm hd hf hr hl hk
 by_cases c4:n.kind=4
 ·exact zsA hT c4 hm hd hf hr hl hk
 by_cases c5:n.kind=5
 ·exact ztc hT c5 hm hd hf hr hl hk
 by_cases c27:n.kind=27
 ·exact zqV hT c27 hm hd hf hr hl hk
 by_cases c24:n.kind=24
 ·exact zof hT c24 hm hd hf hr hl hk
 by_cases c19:n.kind=19
 ·exact zpc hT c19 hm hd hf hr hl hk
 by_cases c6:n.kind=6
 ·exact zsD hT c6 hm hd hf hr hl hk
 by_cases c7:n.kind=7
 ·exact zsh hT c7 hm hd hf hr hl hk
 by_cases c8:n.kind=8
 ·exact zs9 hT c8 hm hd hf hr hl hk
 by_cases c9:n.kind=9
 ·exact zrZ hT c9 hm hd hf hr hl hk
 by_cases c10:n.kind=10
 ·exact zqd hT c10 hm hd hf hr hl hk
 by_cases c11:n.kind=11
 ·exact zpW hT c11 hm hd hf hr hl hk
 by_cases c12:n.kind=12
 ·exact zp6 hT c12 hm hd hf hr hl hk
 by_cases c13:n.kind=13
 ·exact zqc hT c13 hm hd hf hr hl hk
 by_cases c14:n.kind=14
 ·exact zpz hT c14 hm hd hf hr hl hk
 exact zry hT hm hky c1 c2 c3 c4 c5 c27 c24 c19 c6 c7 c8 c9 c10 c11 c12 c13 c14 hd hf hr hl hk
theorem VR:∀ d,TxC d
 | 0=>fun n lo r hd=>by obtain⟨k,hk⟩:=hd.pos;cases hk
 | d+1=>zsS (VR d)
end Go.Proofs
namespace Go.AL
theorem zgi (T:Nd→Tx):∀ (l:List Nd) (w:Tx),w.length≤(XA T w l).length
 | [],w=>Nat.le_refl _
 | k::r,w=>by
  have h:=zgi T r (if 0<k.kids.length then Qa [w,[40],T k,[41]] else Qa [w,T k])
  have h2:w.length≤(if 0<k.kids.length then Qa [w,[40],T k,[41]] else Qa [w,T k]).length:=by
   split
   ·rw[QY];omega
   ·rw[ZR];omega
  exact Nat.le_trans h2 h
theorem zmJ (T:Nd→Tx):∀ (l:List Nd) (i:Nat) (w:Tx),w.length≤(zbI T i w l).length
 | [],_,w=>Nat.le_refl _
 | k::r,i,w=>by
  have h:=zmJ T r (i+1) (Qa [w,if i=0 then [111,102] else [44],T k])
  rw[Z0] at h
  show _≤(zbI T _ _ r).length
  omega
theorem ze6 (d:Nat):∀ (l:List Nd) (i:Nat) (w:Tx),w.length≤(JJ d i w l).length
 | [],_,w=>Nat.le_refl _
 | k::r,i,w=>by
  have h:=ze6 d r (i+1) (Qa [if 0<i then Qa [w,[124]] else w,zcx d k])
  rw[ZR] at h
  have h2:w.length≤(if 0<i then Qa [w,[124]] else w).length:=by
   split
   ·rw[ZR];omega
   ·omega
  show _≤(JJ d _ _ r).length
  omega
end Go.AL
namespace Go.Proofs
open Go Go.AL
def TyC (d:Nat):Prop:=∀ (n:Nd) (r:Tx),Dep d n→Fit n→ZK d n=r→r.length≤140737488355328→∀ (K:SV→St→Prop) (st:St),K (.sc (.string (ba r))) st→ACalls Tryz.prog 64 [zH n] K st
theorem TyC.agg {d:Nat} (hT:TyC d) {n:Nd} {r:Tx} (hd:Dep d n) (hf:Fit n) (hr:ZK d n=r) (hl:r.length≤140737488355328) {K:SV→St→Prop} {st:St} (hk:K (.sc (.string (ba r))) st) :
  ACalls Tryz.prog 64 [.agg [.sc (.int .i64 n.kind),.sc (.string (ba n.text)),.sc (.int .i64 n.num),.sc (.int .i64 n.pos),.slice .imm 1 (n.names.map qv),.slice .imm 6 (n.kids.map zH)]] K st:=by
 have:=hT n r hd hf hr hl K st hk
 rw[Ze] at this
 exact this
theorem zqj {d:Nat} (hT:TyC d):TyC (d+1):=by
 intro n r hd hf hr hl K st hk
 refine zj [] Tryz.func64 rfl Tryz.results64 Tryz.ntmps64 ?_
 have hn:=hf.kids.2.1
 generalize hL:n.kids=l at *
 have hr:XA (ZK d) n.text l=r:=by rw[←hr,←hL];rfl
 have hd:∀ c∈l,Dep d c:=by rw[←hL];exact hd.kids
 have hf:∀ c∈l,Fit c:=by rw[←hL];exact hf.kids.1
 simp only[go_sem,zc,List.length_map,hL]
 refine zM [] (fun k env s=>∃ (i:Nat) (v:Tx) (ex:St),k+i=l.length∧XA (ZK d) v (l.drop i)=r∧env=[.any,.any,.any,.sc (.string (ba v)),.any,.any,.any,.any,.any,.slice .imm 6 (l.map zH),.sc (.int .i64 l.length),.sc (.int .i64 i),.any,.any,.any,.any,.any,.any,.any,.any,.any,.any,.any,.any,.any,.any,.any,.any,.any,.any,.any]∧s=st++ex) (n:=l.length) ?_ ⟨0,n.text,[],by omega,hr,rfl,by simp⟩ ?_
 ·repeat (first | exact zi | refine zh _ ?_ | refine zf _ ?_ | refine ze _ ?_)
 rintro k env s ⟨i,v,ex,hi,hv,rfl,rfl⟩
 by_cases hlt:i<l.length
 ·have c2:decide ((i:Int)<(l.length:Int))=true:=by simp;omega
  have w1:IntKind.i64.wrap ((i:Int)+1)=((i+1:Nat):Int):=by rw[IntWalk.i64_in _ (by omega)];rfl
  have g1:=QJ hlt
  rw[List.drop_eq_getElem_cons hlt] at hv
  have hv:XA (ZK d) (if 0<l[i].kids.length then Qa [v,[40],ZK d l[i],[41]] else Qa [v,ZK d l[i]]) (l.drop (i+1))=r:=hv
  have hle:=zgi (ZK d) (l.drop (i+1)) (if 0<l[i].kids.length then Qa [v,[40],ZK d l[i],[41]] else Qa [v,ZK d l[i]])
  rw[hv] at hle
  have hd1:=hd _ (List.getElem_mem hlt)
  have hf1:=hf _ (List.getElem_mem hlt)
  by_cases c:0<l[i].kids.length
  ·have b1:decide (0<(l[i].kids.length:Int))=true:=by rw[decide_eq_true_eq];omega
   rw[if_pos c] at hv hle
   have hle2:=hle
   rw[QY] at hle2
   simp only[go_sem,c2,w1,List.length_map,g1,zc,b1]
   refine⟨by omega,?_⟩
   refine hT.agg hd1 hf1 rfl (by omega) ?_
   simp only[go_sem,w1]
   refine Qz (l:=[v,[40],ZK d l[i],[41]]) (by simp) (by simp) rfl (by omega) ?_
   simp only[go_sem,w1]
   refine⟨k-1,_,by omega,?_,i+1,_,_,by omega,hv,rfl,rfl⟩
   repeat (first | exact zi | refine zh _ ?_ | refine zf _ ?_ | refine ze _ ?_)
  ·have b1:decide (0<(l[i].kids.length:Int))=false:=by rw[decide_eq_false_iff_not];omega
   rw[if_neg c] at hv hle
   have hle2:=hle
   rw[ZR] at hle2
   simp only[go_sem,c2,w1,List.length_map,g1,zc,b1]
   refine⟨by omega,?_⟩
   refine hT.agg hd1 hf1 rfl (by omega) ?_
   simp only[go_sem,w1]
   refine Qz (l:=[v,ZK d l[i]]) (by simp) (by simp) rfl (by omega) ?_
   simp only[go_sem,w1]
   refine⟨k-1,_,by omega,?_,i+1,_,_,by omega,hv,rfl,rfl⟩
   repeat (first | exact zi | refine zh _ ?_ | refine zf _ ?_ | refine ze _ ?_)
 ·have c2:decide ((i:Int)<(l.length:Int))=false:=by simp;omega
  rw[List.drop_of_length_le (by omega)] at hv
  have hv:v=r:=hv
  subst hv
  simp only[go_sem,c2]
  exact zP (zB _ _) hk
theorem zg6:∀ d,TyC d
 | 0=>fun n r hd=>by obtain⟨k,hk⟩:=hd.pos;cases hk
 | d+1=>zqj (zg6 d)
theorem zyN {d:Nat} {n:Nd} (hd:Dep (d+1) n) (hf:Fit n) {r:Tx} (hr:zcx d n=r) (hl:r.length≤140737488355328) {K:SV→St→Prop} {st:St} (hk:K (.sc (.string (ba r))) st):ACalls Tryz.prog 43 [zH n] K st:=by
 refine zj [] Tryz.func43 rfl Tryz.results43 Tryz.ntmps43 ?_
 have hn:=hf.kids.2.1
 generalize hL:n.kids=l at *
 have hr:zbI (ZK d) 0 n.text l=r:=by rw[←hr,←hL];rfl
 have hd:∀ c∈l,Dep d c:=by rw[←hL];exact hd.kids
 have hf:∀ c∈l,Fit c:=by rw[←hL];exact hf.kids.1
 simp only[go_sem,zc,List.length_map,hL]
 refine zM [] (fun k env s=>∃ (i:Nat) (v:Tx) (ex:St),k+i=l.length∧zbI (ZK d) i v (l.drop i)=r∧env=[.any,.any,.any,.sc (.string (ba v)),.any,.any,.any,.any,.any,.any,.slice .imm 6 (l.map zH),.sc (.int .i64 l.length),.sc (.int .i64 i),.any,.any,.any,.any,.any,.any,.any,.any,.any,.any,.any,.any,.any,.any]∧s=st++ex) (n:=l.length) ?_ ⟨0,n.text,[],by omega,hr,rfl,by simp⟩ ?_
 ·repeat (first | exact zi | refine zh _ ?_ | refine zf _ ?_ | refine ze _ ?_)
 rintro k env s ⟨i,v,ex,hi,hv,rfl,rfl⟩
 by_cases hlt:i<l.length
 ·have c2:decide ((i:Int)<(l.length:Int))=true:=by simp;omega
  have w1:IntKind.i64.wrap ((i:Int)+1)=((i+1:Nat):Int):=by rw[IntWalk.i64_in _ (by omega)];rfl
  have g1:=QJ hlt
  rw[List.drop_eq_getElem_cons hlt] at hv
  have hv:zbI (ZK d) (i+1) (Qa [v,if i=0 then [111,102] else [44],ZK d l[i]]) (l.drop (i+1))=r:=hv
  have hle:=zmJ (ZK d) (l.drop (i+1)) (i+1) (Qa [v,if i=0 then [111,102] else [44],ZK d l[i]])
  rw[hv] at hle
  have hle2:=hle
  rw[Z0] at hle2
  have hd1:=hd _ (List.getElem_mem hlt)
  have hf1:=hf _ (List.getElem_mem hlt)
  by_cases c:i=0
  ·have b1:((i:Int)==0)=true:=by simp[c]
   rw[if_pos c] at hv hle hle2
   simp only[go_sem,c2,w1,List.length_map,g1,zc,b1]
   refine⟨by omega,?_⟩
   refine (zg6 d).agg hd1 hf1 rfl (by omega) ?_
   simp only[go_sem,w1]
   refine Qz (l:=[v,[111,102],ZK d l[i]]) (by simp) (by simp) rfl (by omega) ?_
   simp only[go_sem,w1]
   refine⟨k-1,_,by omega,?_,i+1,_,_,by omega,hv,rfl,rfl⟩
   repeat (first | exact zi | refine zh _ ?_ | refine zf _ ?_ | refine ze _ ?_)
  ·have b1:((i:Int)==0)=false:=by simp[c]
   rw[if_neg c] at hv hle hle2
   simp only[go_sem,c2,w1,List.length_map,g1,zc,b1]
   refine⟨by omega,?_⟩
   refine (zg6 d).agg hd1 hf1 rfl (by omega) ?_
   simp only[go_sem,w1]
   refine Qz (l:=[v,[44],ZK d l[i]]) (by simp) (by simp) rfl (by omega) ?_
   simp only[go_sem,w1]
   refine⟨k-1,_,by omega,?_,i+1,_,_,by omega,hv,rfl,rfl⟩
   repeat (first | exact zi | refine zh _ ?_ | refine zf _ ?_ | refine ze _ ?_)
 ·have c2:decide ((i:Int)<(l.length:Int))=false:=by simp;omega
  rw[List.drop_of_length_le (by omega)] at hv
  have hv:v=r:=hv
  subst hv
  simp only[go_sem,c2]
  exact zP (zB _ _) hk
end Go.Proofs
namespace Go.Proofs
open Go Go.AL
theorem zv4 {m:Go.AL.Mode} {x:List SV} {l:List Tx} (hx:x=l.map qv) (h0:l≠[]) (hn:l.length≤1000000) {r:Tx} (hr:Qa l=r) (hl:r.length≤140737488355328) {K:SV→St→Prop} {st:St} (hk:K (.sc (.string (ba r))) st):ACalls Tryz.prog 26 [.slice m 1 x] K st:=by
 subst hx;exact Qz h0 hn hr hl hk
theorem ztG {n:Nat} (h:n≤1000000):AppOk Tryz.prog 23 23 1 n:=Jj Tryz.aelem23 Tryz.aelem23 Tryz.asize9 Tryz.azero9 rfl Tryz.abytes9 (by omega) h
theorem zzj {d:Nat} {n:Nd} (hd:Dep (d+1) n) (hf:Fit n) {r:Tx} (hr:zcx d n=r) (hl:r.length≤140737488355328) {K:SV→St→Prop} {st:St} (hk:K (.sc (.string (ba r))) st) :
  ACalls Tryz.prog 43 [.agg [.sc (.int .i64 n.kind),.sc (.string (ba n.text)),.sc (.int .i64 n.num),.sc (.int .i64 n.pos),.slice .imm 1 (n.names.map qv),.slice .imm 6 (n.kids.map zH)]] K st:=by
 have:=zyN hd hf hr hl hk
 rw[Ze] at this
 exact this
theorem zsP {d:Nat} {n:Nd} (h25:n.kind=25) (hd:Dep (d+1) n) (hf:Fit n) {r:Tx} (hr:Xl d n=r) (hl:r.length≤140737488355328) {K:SV→St→Prop} {st:St} (hk:K (.sc (.string (ba r))) st):ACalls Tryz.prog 27 [zH n] K st:=by
 refine zj [] Tryz.func27 rfl Tryz.results27 Tryz.ntmps27 ?_
 have e28:(n.kind==28)=false:=by simp[h25]
 have e29:(n.kind==29)=false:=by simp[h25]
 have e25:(n.kind != 25)=false:=by simp[h25]
 have hn:=hf.kids.2.1
 have hns:=hf.kids.2.2.1
 generalize hw:Qa (([[116,121,112,101],n.text]++n.names)++[[61]])=w
 have hr:JJ d 0 w n.kids=r:=by
  rw[←hr,←hw];unfold Xl;rw[if_neg (by rw[h25];simp),if_neg (by rw[h25];simp),if_neg (by rw[h25];simp)]
 have hle0:=ze6 d n.kids 0 w
 rw[hr] at hle0
 have hmap:(SV.sc (.string ⟨#[116,121,112,101]⟩)::SV.sc (.string (ba n.text))::(n.names.map qv++[SV.sc (.string ⟨#[61]⟩)]))=(([[116,121,112,101],n.text]++n.names)++[[61]]:List Tx).map qv:=by
  simp[qv]
 simp only[go_sem,zc,List.length_map,e28,e29,e25]
 refine⟨ztG (by omega),ztG (by omega),?_⟩
 refine zv4 hmap (by simp) (by simp;omega) hw (by omega) ?_
 simp only[go_sem,zc,List.length_map]
 generalize hL:n.kids=l at *
 have hd:∀ c∈l,Dep d c:=by rw[←hL];exact hd.kids
 have hf:∀ c∈l,Fit c:=by rw[←hL];exact hf.kids.1
 refine zM [] (fun k env s=>∃ (i:Nat) (v:Tx) (ex:St),k+i=l.length∧JJ d i v (l.drop i)=r∧env=[.any,.any,.any,.sc (.string (ba v)),.any,.any,.any,.any,.any,.any,.any,.any,.any,.any,.any,.any,.any,.any,.any,.any,.any,.any,.any,.any,.any,.any,.any,.any,.any,.any,.any,.any,.any,.any,.any,.any,.any,.any,.any,.any,.slice .imm 6 (l.map zH),.sc (.int .i64 l.length),.sc (.int .i64 i),.any,.any,.any,.any,.any,.any,.any,.any,.any,.any,.any,.any,.any,.any,.any,.any]∧s=st++ex) (n:=l.length) ?_ ⟨0,w,[.tok 1],by omega,hr,rfl,rfl⟩ ?_
 ·repeat (first | exact zi | refine zh _ ?_ | refine zf _ ?_ | refine ze _ ?_)
 rintro k env s ⟨i,v,ex,hi,hv,rfl,rfl⟩
 by_cases hlt:i<l.length
 ·have c2:decide ((i:Int)<(l.length:Int))=true:=by simp;omega
  have w1:IntKind.i64.wrap ((i:Int)+1)=((i+1:Nat):Int):=by rw[IntWalk.i64_in _ (by omega)];rfl
  have g1:=QJ hlt
  rw[List.drop_eq_getElem_cons hlt] at hv
  have hv:JJ d (i+1) (Qa [if 0<i then Qa [v,[124]] else v,zcx d l[i]]) (l.drop (i+1))=r:=hv
  have hle:=ze6 d (l.drop (i+1)) (i+1) (Qa [if 0<i then Qa [v,[124]] else v,zcx d l[i]])
  rw[hv] at hle
  have hle2:=hle
  rw[ZR] at hle2
  have hd1:Dep (d+1) l[i]:=(hd _ (List.getElem_mem hlt)).mono (Nat.le_succ d)
  have hf1:=hf _ (List.getElem_mem hlt)
  by_cases c:0<i
  ·have b1:decide (0<(i:Int))=true:=by rw[decide_eq_true_eq];omega
   rw[if_pos c] at hv hle hle2
   simp only[go_sem,c2,w1,List.length_map,g1,zc,gt_iff_lt,b1]
   refine⟨by omega,?_⟩
   refine Qz (l:=[v,[124]]) (by simp) (by simp) rfl (by omega) ?_
   simp only[go_sem,w1]
   refine zzj hd1 hf1 rfl (by omega) ?_
   simp only[go_sem,w1]
   refine Qz (l:=[Qa [v,[124]],zcx d l[i]]) (by simp) (by simp) rfl (by omega) ?_
   simp only[go_sem,w1]
   refine⟨k-1,_,by omega,?_,i+1,_,_,by omega,hv,rfl,rfl⟩
   repeat (first | exact zi | refine zh _ ?_ | refine zf _ ?_ | refine ze _ ?_)
  ·have b1:decide (0<(i:Int))=false:=by rw[decide_eq_false_iff_not];omega
   rw[if_neg c] at hv hle hle2
   simp only[go_sem,c2,w1,List.length_map,g1,zc,gt_iff_lt,b1]
   refine⟨by omega,?_⟩
   refine zzj hd1 hf1 rfl (by omega) ?_
   simp only[go_sem,w1]
   refine Qz (l:=[v,zcx d l[i]]) (by simp) (by simp) rfl (by omega) ?_
   simp only[go_sem,w1]
   refine⟨k-1,_,by omega,?_,i+1,_,_,by omega,hv,rfl,rfl⟩
   repeat (first | exact zi | refine zh _ ?_ | refine zf _ ?_ | refine ze _ ?_)
 ·have c2:decide ((i:Int)<(l.length:Int))=false:=by simp;omega
  rw[List.drop_of_length_le (by omega)] at hv
  have hv:v=r:=hv
  subst hv
  simp only[go_sem,c2]
  exact zP (zB _ _) hk
theorem zsy {d:Nat} {n:Nd} (h25:n.kind≠25) (hd:Dep (d+1) n) (hf:Fit n) {r:Tx} (hr:Xl d n=r) (hl:r.length≤140737488355328) {K:SV→St→Prop} {st:St} (hk:K (.sc (.string (ba r))) st):ACalls Tryz.prog 27 [zH n] K st:=by
 refine zj [] Tryz.func27 rfl Tryz.results27 Tryz.ntmps27 ?_
 have e25:(n.kind != 25)=true:=by simp[h25]
 unfold Xl at hr
 by_cases c28:n.kind=28
 ·have e28:(n.kind==28)=true:=by simp[c28]
  have e29:(n.kind==29)=false:=by simp[c28]
  cases hm:qV n with
  | true =>
   rw[if_pos ⟨c28,hm⟩] at hr
   have h1:0<n.kids.length:=by
    unfold qV at hm
    simp only[c28] at hm
    simp at hm;omega
   simp only[go_sem,zc,e28]
   refine Xg hm ?_
   simp only[go_sem,zc,e28]
   refine zmd (VR d) hd hf h1 (w:=[108,101,116]) rfl hr hl ?_
   simp only[go_sem]
   exact qo (zB _ _) hk
  | false =>
   rw[if_neg (by rw[hm];simp),if_neg (by rw[c28];simp),if_pos h25] at hr
   subst hr
   simp only[go_sem,zc,e28,e29]
   refine Xg hm ?_
   simp only[go_sem,zc,e28,e29,e25]
   exact qo (zB _ _) hk
 have e28:(n.kind==28)=false:=by simp[c28]
 rw[if_neg (fun h=>c28 h.1)] at hr
 by_cases c29:n.kind=29
 ·have e29:(n.kind==29)=true:=by simp[c29]
  cases hm:qV n with
  | true =>
   rw[if_pos ⟨c29,hm⟩] at hr
   have h1:0<n.kids.length:=by
    unfold qV at hm
    simp only[c29] at hm
    simp at hm;omega
   simp only[go_sem,zc,e28,e29]
   refine Xg hm ?_
   simp only[go_sem,zc,e28,e29]
   refine zmd (VR d) hd hf h1 (w:=[108,101,116,32,114,101,99]) rfl hr hl ?_
   simp only[go_sem]
   exact qo (zB _ _) hk
  | false =>
   rw[if_neg (by rw[hm];simp),if_pos h25] at hr
   subst hr
   simp only[go_sem,zc,e28,e29]
   refine Xg hm ?_
   simp only[go_sem,zc,e28,e29,e25]
   exact qo (zB _ _) hk
 have e29:(n.kind==29)=false:=by simp[c29]
 rw[if_neg (fun h=>c29 h.1),if_pos h25] at hr
 subst hr
 simp only[go_sem,zc,e28,e29,e25]
 exact qo (zB _ _) hk
theorem zrN {d:Nat} {n:Nd} (hd:Dep (d+1) n) (hf:Fit n) {r:Tx} (hr:Xl d n=r) (hl:r.length≤140737488355328) {K:SV→St→Prop} {st:St} (hk:K (.sc (.string (ba r))) st):ACalls Tryz.prog 27 [zH n] K st:=by
 by_cases h:n.kind=25
 ·exact zsP h hd hf hr hl hk
 ·exact zsy h hd hf hr hl hk
theorem zy2 {d:Nat} {n:Nd} (hd:Dep (d+1) n) (hf:Fit n) {r:Tx} (hr:Xl d n=r) (hl:r.length≤140737488355328) {K:SV→St→Prop} {st:St} (hk:K (.sc (.string (ba r))) st) :
  ACalls Tryz.prog 27 [.agg [.sc (.int .i64 n.kind),.sc (.string (ba n.text)),.sc (.int .i64 n.num),.sc (.int .i64 n.pos),.slice .imm 1 (n.names.map qv),.slice .imm 6 (n.kids.map zH)]] K st:=by
 have:=zrN hd hf hr hl hk
 rw[Ze] at this
 exact this
end Go.Proofs
