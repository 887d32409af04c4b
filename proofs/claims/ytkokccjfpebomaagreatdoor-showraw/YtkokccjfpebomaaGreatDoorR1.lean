/- The document's word, is, Wrap, Show, Quote. -/
import Derived.Test.YtkokccjfpebomaaGreatDoorX1
set_option linter.all false
set_option maxHeartbeats 4000000
set_option maxRecDepth 8000
namespace Go.AL
def kindsL:List Int:=[15,16,17,18,21,22,23,20]
def wordsL:List Tx:=[[112,114,105,110,116],[114,97,105,115,101],[115,112,97,119,110],[97,116,111,109,105,99,97,108,108,121],[116,118,97,114],[114,101,97,100],[119,114,105,116,101],[111,114,101,108,115,101]]
theorem oO{k:Int}{i:Nat}(h:i<8)(he:kindsL.getD i 0=k):qX k=wordsL.getD i []:=by
 subst he;match i,h with
 | 0,_ | 1,_ | 2,_ | 3,_ | 4,_ | 5,_ | 6,_ | 7,_=>rfl
 | i+8,h=>omega
theorem dK{k:Int}(h:∀ i,i<8→kindsL.getD i 0≠k):qX k=[]:=by
 have h0:=h 0 (by decide);have h1:=h 1 (by decide);have h2:=h 2 (by decide);have h3:=h 3 (by decide);have h4:=h 4 (by decide);have h5:=h 5 (by decide);have h6:=h 6 (by decide);have h7:=h 7 (by decide);simp only[kindsL,xgZ,xgS] at h0 h1 h2 h3 h4 h5 h6 h7;unfold qX;rw[if_neg (fun e=>h0 e.symm),if_neg (fun e=>h1 e.symm),if_neg (fun e=>h2 e.symm),if_neg (fun e=>h3 e.symm),if_neg (fun e=>h4 e.symm),if_neg (fun e=>h5 e.symm),if_neg (fun e=>h6 e.symm),if_neg (fun e=>h7 e.symm)]
end Go.AL
namespace Go.Proofs
open Go Go.AL Tryz
def MP(k:Int):SV :=.sc (.int .i64 k)
theorem pW{i:Nat}(h:i<8):(kindsL.map MP).getD i .any = .sc (.int .i64 (kindsL.getD i 0)):=by
 match i,h with
 | 0,_ | 1,_ | 2,_ | 3,_ | 4,_ | 5,_ | 6,_ | 7,_=>rfl
 | i+8,h=>omega
theorem cD{i:Nat}(h:i<8):(wordsL.map qc).getD i .any = .sc (.string (ba (wordsL.getD i []))):=by
 match i,h with
 | 0,_ | 1,_ | 2,_ | 3,_ | 4,_ | 5,_ | 6,_ | 7,_=>rfl
 | i+8,h=>omega
theorem Z2{k:Int}{r:Tx}(hr:qX k=r){K:SV→St→Prop}{st:St}(hk:K (.sc (.string (ba r))) st):ACalls prog 81 [.sc (.int .i64 k)] K st:=by
 refine zd [] func81 rfl results81 ntmps81 ?_;simp only[go_sem];refine zx [] (fun q env s=>∃ i:Nat,q+i=8∧(∀ j,j<i→kindsL.getD j 0≠k)∧env=[.sc (.int .i64 k),.any,.any,.slice .full 1 (kindsL.map MP),.slice .full 1 (wordsL.map qc),.sc (.int .i64 i),.any,.any,.any,.any,.any,.any,.any,.any,.any,.any,.any,.any,.any,.any,.any,.any]∧s=st) (n:=8) ?_ ⟨0,rfl,fun j hj=>by omega,rfl,rfl⟩ ?_
 ·exact qu
 rintro q env s ⟨i,hq,hne,rfl,rfl⟩;by_cases hlt:i<8
 ·have c2:decide ((i:Int)<8)=true:=by simp;omega
  have w1:IntKind.i64.wrap ((i:Int)+1)=((i+1:Nat):Int):=by rw[IntWalk.i64_in _ (by omega)];rfl
  have g1:=pW hlt;have g2:=cD hlt;by_cases he:kindsL.getD i 0=k
  ·have b1:(kindsL.getD i 0==k)=true:=by simp only[he,beq_self_eq_true]
   rw[oO hlt he] at hr;subst hr;simp only[go_sem,c2,w1,g1,g2,b1,xlM,show kindsL.length=8 from rfl,show wordsL.length=8 from rfl];refine⟨by omega,by omega,?_⟩;exact zy (zi _ _) hk
  ·have b1:(kindsL.getD i 0==k)=false:=by rw[beq_eq_false_iff_ne];exact he
   simp only[go_sem,c2,w1,g1,b1,xlM,show kindsL.length=8 from rfl];refine⟨by omega,q-1,_,by omega,?_,i+1,by omega,fun j hj=>?_,rfl⟩
   ·exact qu
   ·by_cases hji:j=i
    ·rw[hji];exact he
    ·exact hne j (by omega)
 ·have c2:decide ((i:Int)<8)=false:=by simp;omega
  rw[dK (fun j hj=>hne j (by omega))] at hr;subst hr;simp only[go_sem,c2];exact zy (zi _ _) hk
theorem kl{n:Nd}{r:Int}(hr:qZ n=r){K:SV→St→Prop}{st:St}(hk:K (.sc (.int .i64 r)) st):ACalls prog 51 [zq n] K st:=by
 refine zd [] func51 rfl results51 ntmps51 ?_;subst hr;unfold qZ at hk;by_cases c13:n.kind=13
 ·have e13:(n.kind==13)=true:=by simp[c13]
  rw[if_neg (by rw[c13];decide),if_neg (by rw[c13];decide),if_pos c13] at hk;have hb:∀ x:Tx,n.text=x→(n.text==x)=true:=fun x h=>by simp[h]
  have hn:∀ x:Tx,n.text≠x→(n.text==x)=false:=fun x h=>by simp[h]
  unfold ZV at hk;by_cases t61:n.text=[61]
  ·have u61:=hb _ t61;rw[if_pos (by simp only[t61,true_or,or_true])] at hk;simp only[go_sem,za,e13,QH,u61];exact zy (zi _ _) hk
  have u61:=hn _ t61;by_cases t60:n.text=[60]
  ·have u60:=hb _ t60;rw[if_pos (by simp only[t60,true_or,or_true])] at hk;simp only[go_sem,za,e13,QH,u61,u60];exact zy (zi _ _) hk
  have u60:=hn _ t60;by_cases t43:n.text=[43]
  ·have u43:=hb _ t43;rw[if_neg (by simp only[t61,t60,or_self,not_false_eq_true]),if_pos (by simp only[t43,true_or,or_true])] at hk;simp only[go_sem,za,e13,QH,u61,u60,u43];exact zy (zi _ _) hk
  have u43:=hn _ t43;by_cases t45:n.text=[45]
  ·have u45:=hb _ t45;rw[if_neg (by simp only[t61,t60,or_self,not_false_eq_true]),if_pos (by simp only[t45,true_or,or_true])] at hk;simp only[go_sem,za,e13,QH,u61,u60,u43,u45];exact zy (zi _ _) hk
  have u45:=hn _ t45;by_cases t94:n.text=[94]
  ·have u94:=hb _ t94;rw[if_neg (by simp only[t61,t60,or_self,not_false_eq_true]),if_pos (by simp only[t94,true_or,or_true])] at hk;simp only[go_sem,za,e13,QH,u61,u60,u43,u45,u94];exact zy (zi _ _) hk
  have u94:=hn _ t94;rw[if_neg (by simp only[t61,t60,or_self,not_false_eq_true]),if_neg (by simp only[t43,t45,t94,or_self,not_false_eq_true])] at hk;simp only[go_sem,za,e13,QH,u61,u60,u43,u45,u94];exact zy (zi _ _) hk
 have e13:(n.kind==13)=false:=by simp[c13]
 by_cases c14:n.kind=14
 ·have e14:(n.kind==14)=true:=by simp[c14]
  rw[if_pos c14] at hk;simp only[go_sem,za,e13,e14];exact zy (zi _ _) hk
 have e14:(n.kind==14)=false:=by simp[c14]
 rw[if_neg c14] at hk;by_cases c8:n.kind=8
 ·have e8:(n.kind==8)=true:=by simp[c8]
  rw[if_pos (by simp only[c8,true_or,or_true])] at hk;simp only[go_sem,za,e13,e14,e8];exact zy (zi _ _) hk
 have e8:(n.kind==8)=false:=by simp[c8]
 by_cases c9:n.kind=9
 ·have e9:(n.kind==9)=true:=by simp[c9]
  rw[if_pos (by simp only[c9,true_or,or_true])] at hk;simp only[go_sem,za,e13,e14,e8,e9];exact zy (zi _ _) hk
 have e9:(n.kind==9)=false:=by simp[c9]
 by_cases c6:n.kind=6
 ·have e6:(n.kind==6)=true:=by simp[c6]
  rw[if_pos (by simp only[c6,true_or,or_true])] at hk;simp only[go_sem,za,e13,e14,e8,e9,e6];exact zy (zi _ _) hk
 have e6:(n.kind==6)=false:=by simp[c6]
 by_cases c10:n.kind=10
 ·have e10:(n.kind==10)=true:=by simp[c10]
  rw[if_pos (by simp only[c10,true_or,or_true])] at hk;simp only[go_sem,za,e13,e14,e8,e9,e6,e10];exact zy (zi _ _) hk
 have e10:(n.kind==10)=false:=by simp[c10]
 rw[if_neg (by simp only[c8,c9,c6,c10,or_self,not_false_eq_true]),if_neg c13] at hk;by_cases c7:n.kind=7
 ·have e7:(n.kind==7)=true:=by simp[c7]
  rw[if_pos c7] at hk;simp only[go_sem,za,e13,e14,e8,e9,e6,e10,e7];exact zy (zi _ _) hk
 have e7:(n.kind==7)=false:=by simp[c7]
 rw[if_neg c7] at hk;by_cases c5:n.kind=5
 ·have e5:(n.kind==5)=true:=by simp[c5]
  rw[if_pos c5] at hk;by_cases c0:0<n.kids.length
  ·have e0:decide (0<(n.kids.length:Int))=true:=by rw[decide_eq_true_eq];omega
   rw[if_pos c0] at hk;simp only[go_sem,za,xlM,gt_iff_lt,e13,e14,e8,e9,e6,e10,e7,e5,e0];exact zy (zi _ _) hk
  ·have e0:decide (0<(n.kids.length:Int))=false:=by rw[decide_eq_false_iff_not];omega
   have hky:qX n.kind=[]:=by rw[c5];rfl
   rw[if_neg c0] at hk;simp only[go_sem,za,xlM,gt_iff_lt,e13,e14,e8,e9,e6,e10,e7,e5,e0];refine Z2 hky ?_;simp only[go_sem,za,xlM,gt_iff_lt,q8,e13,e14,e8,e9,e6,e10,e7,e5,e0];exact zy (zi _ _) hk
 have e5:(n.kind==5)=false:=by simp[c5]
 rw[if_neg c5] at hk;by_cases hky:qX n.kind=[]
 ·rw[if_neg (by rw[hky];simp)] at hk;simp only[go_sem,za,xlM,gt_iff_lt,e13,e14,e8,e9,e6,e10,e7,e5];refine Z2 hky ?_;simp only[go_sem,za,xlM,gt_iff_lt,q8,e13,e14,e8,e9,e6,e10,e7,e5];exact zy (zi _ _) hk
 ·have hb:(!(qX n.kind==[]))=true:=by simp[hky]
  rw[if_pos hky] at hk;simp only[go_sem,za,xlM,gt_iff_lt,e13,e14,e8,e9,e6,e10,e7,e5];refine Z2 rfl ?_;simp only[go_sem,za,xlM,gt_iff_lt,hb,QH,e13,e14,e8,e9,e6,e10,e7,e5];exact zy (zi _ _) hk
theorem A9:(⟨#[40,32]⟩:ByteArray)=ba [40,32]:=rfl
theorem Ce:(⟨#[32,41]⟩:ByteArray)=ba [32,41]:=rfl
theorem yb:(⟨#[32]⟩:ByteArray)=ba [32]:=rfl
theorem PY:(⟨#[102,117,110,32]⟩:ByteArray)=ba [102,117,110,32]:=rfl
theorem P8:(⟨#[32,45,62,32]⟩:ByteArray)=ba [32,45,62,32]:=rfl
theorem P2:(⟨#[108,101,116,32]⟩:ByteArray)=ba [108,101,116,32]:=rfl
theorem Ra:(⟨#[108,101,116,32,114,101,99,32]⟩:ByteArray)=ba [108,101,116,32,114,101,99,32]:=rfl
theorem RI:(⟨#[32,61,32]⟩:ByteArray)=ba [32,61,32]:=rfl
theorem Re:(⟨#[32,105,110,32]⟩:ByteArray)=ba [32,105,110,32]:=rfl
theorem P1:(⟨#[105,102,32]⟩:ByteArray)=ba [105,102,32]:=rfl
theorem Nu:(⟨#[32,116,104,101,110,32]⟩:ByteArray)=ba [32,116,104,101,110,32]:=rfl
theorem NF:(⟨#[32,101,108,115,101,32]⟩:ByteArray)=ba [32,101,108,115,101,32]:=rfl
theorem ML:(⟨#[116,114,121,32]⟩:ByteArray)=ba [116,114,121,32]:=rfl
theorem MB:(⟨#[32,119,105,116,104,32]⟩:ByteArray)=ba [32,119,105,116,104,32]:=rfl
theorem Mt:(⟨#[32,101,110,100]⟩:ByteArray)=ba [32,101,110,100]:=rfl
theorem OG:(⟨#[32,59,32]⟩:ByteArray)=ba [32,59,32]:=rfl
theorem MD:(⟨#[109,97,116,99,104,32]⟩:ByteArray)=ba [109,97,116,99,104,32]:=rfl
theorem Oz:(⟨#[32,119,105,116,104]⟩:ByteArray)=ba [32,119,105,116,104]:=rfl
theorem NA:(⟨#[32,124,32]⟩:ByteArray)=ba [32,124,32]:=rfl
theorem ZY:((⟨#[40,32]⟩:ByteArray)=ba [40,32])∧((⟨#[32,41]⟩:ByteArray)=ba [32,41])∧((⟨#[32]⟩:ByteArray)=ba [32])∧((⟨#[102,117,110,32]⟩:ByteArray)=ba [102,117,110,32])∧((⟨#[32,45,62,32]⟩:ByteArray)=ba [32,45,62,32])∧((⟨#[108,101,116,32]⟩:ByteArray)=ba [108,101,116,32])∧((⟨#[108,101,116,32,114,101,99,32]⟩:ByteArray)=ba [108,101,116,32,114,101,99,32])∧((⟨#[32,61,32]⟩:ByteArray)=ba [32,61,32])∧((⟨#[32,105,110,32]⟩:ByteArray)=ba [32,105,110,32])∧((⟨#[105,102,32]⟩:ByteArray)=ba [105,102,32])∧((⟨#[32,116,104,101,110,32]⟩:ByteArray)=ba [32,116,104,101,110,32])∧((⟨#[32,101,108,115,101,32]⟩:ByteArray)=ba [32,101,108,115,101,32])∧((⟨#[116,114,121,32]⟩:ByteArray)=ba [116,114,121,32])∧((⟨#[32,119,105,116,104,32]⟩:ByteArray)=ba [32,119,105,116,104,32])∧((⟨#[32,101,110,100]⟩:ByteArray)=ba [32,101,110,100])∧((⟨#[32,59,32]⟩:ByteArray)=ba [32,59,32])∧((⟨#[109,97,116,99,104,32]⟩:ByteArray)=ba [109,97,116,99,104,32])∧((⟨#[32,119,105,116,104]⟩:ByteArray)=ba [32,119,105,116,104])∧((⟨#[32,124,32]⟩:ByteArray)=ba [32,124,32]):=⟨A9,Ce,yb,PY,P8,P2,Ra,RI,Re,P1,Nu,NF,ML,MB,Mt,OG,MD,Oz,NA⟩
def GN(n:Nd):Prop:=GE n∧Nr n
theorem GN.kids{n:Nd}(h:GN n):∀ c∈n.kids,GN c:=fun c hc=>⟨h.1.kids c hc,h.2.kids c hc⟩
def RtC(d:Nat):Prop:=∀ (n:Nd) (lo:Int) (r:Tx),GN n→Dep d n→Fit n→zo d n lo=r→r.length≤140737488355328→∀ (K:SV→St→Prop) (st:St),K (.sc (.string (ba r))) st→ACalls prog 52 [zq n,.sc (.int .i64 lo)] K st
theorem RtC.agg{d:Nat}(hT:RtC d){n:Nd}{lo:Int}{r:Tx}(hg:GN n)(hd:Dep d n)(hf:Fit n)(hr:zo d n lo=r)(hl:r.length≤140737488355328){K:SV→St→Prop}{st:St}(hk:K (.sc (.string (ba r))) st) :
  ACalls prog 52 [.agg [.sc (.int .i64 n.kind),.sc (.string (ba n.text)),.sc (.int .i64 n.num),.sc (.int .i64 n.pos),.slice .imm 1 (n.names.map qc),.slice .imm 6 (n.kids.map zq)],.sc (.int .i64 lo)] K st:=by
 have:=hT n lo r hg hd hf hr hl K st hk;rw[qG] at this;exact this
theorem Rn{n:Nd}{r:Int}(hr:qZ n=r){K:SV→St→Prop}{st:St}(hk:K (.sc (.int .i64 r)) st) :
  ACalls prog 51 [.agg [.sc (.int .i64 n.kind),.sc (.string (ba n.text)),.sc (.int .i64 n.num),.sc (.int .i64 n.pos),.slice .imm 1 (n.names.map qc),.slice .imm 6 (n.kids.map zq)]] K st:=by
 have:=kl hr hk;rw[qG] at this;exact this
theorem Xa{n:Nd}(h:GN n){i:Nat}(hi:i<n.kids.length):GN (kid n i):=by
 unfold kid;rw[xgE,List.getElem?_eq_getElem hi];exact h.kids _ (List.getElem_mem hi)
theorem RJ{d:Nat}(hT:RtC d){n:Nd}(hg:GN n)(hd:Dep d n)(hf:Fit n){m lo:Int}{r:Tx}(hr:zj (zo d) n m lo=r)(hl:r.length≤140737488355328){K:SV→St→Prop}{st:St}(hk:K (.sc (.string (ba r))) st) :
  ACalls prog 32 [zq n,.sc (.int .i64 m),.sc (.int .i64 lo)] K st:=by
 refine zd [] func32 rfl results32 ntmps32 ?_;unfold zj at hr;by_cases c:m<qZ n∨n.kind=5∧m=1
 ·rw[if_pos c] at hr;have hl0:=hl;rw[←hr,Zc] at hl0;have hl1:(zo d n 7).length≤140737488355328:=by omega
  have e:(40::32::(zo d n 7++[32,41]):Tx)=r:=by rw[←hr];rfl
  by_cases c1:m<qZ n
  ·have b1:decide (m<qZ n)=true:=by simp[c1]
   simp only[go_sem];refine kl rfl ?_;simp only[go_sem,za,b1];refine hT.agg hg hd hf rfl hl1 ?_;simp only[go_sem,A9,Ce,zP,xaA,xcA,xnA,e];repeat (refine⟨by (first | omega | (simp only[xsA,xlA,xlC,xlN];omega)),?_⟩)
   exact zy (zi _ _) hk
  ·have b1:decide (m<qZ n)=false:=by simp[c1]
   have b2:(n.kind==5)=true:=by have:=c.resolve_left c1;simp[this.1]
   have b3:(m==1)=true:=by have:=c.resolve_left c1;simp[this.2]
   simp only[go_sem];refine kl rfl ?_;simp only[go_sem,za,b1,b2,b3];refine hT.agg hg hd hf rfl hl1 ?_;simp only[go_sem,A9,Ce,zP,xaA,xcA,xnA,e];repeat (refine⟨by (first | omega | (simp only[xsA,xlA,xlC,xlN];omega)),?_⟩)
   exact zy (zi _ _) hk
 ·rw[if_neg c] at hr;have b1:decide (m<qZ n)=false:=by simp only[decide_eq_false_iff_not];exact fun x=>c (.inl x)
  by_cases c2:n.kind=5
  ·have b2:(n.kind==5)=true:=by simp[c2]
   have b3:(m==1)=false:=by simp;exact fun x=>c (.inr ⟨c2,x⟩)
   simp only[go_sem];refine kl rfl ?_;simp only[go_sem,za,b1,b2,b3];refine hT.agg hg hd hf hr hl ?_;simp only[go_sem];exact zy (zi _ _) hk
  ·have b2:(n.kind==5)=false:=by simp[c2]
   simp only[go_sem];refine kl rfl ?_;simp only[go_sem,za,b1,b2];refine hT.agg hg hd hf hr hl ?_;simp only[go_sem];exact zy (zi _ _) hk
theorem Ep{d:Nat}(hT:RtC d){n:Nd}(hg:GN n)(hd:Dep d n)(hf:Fit n){m lo:Int}{r:Tx}(hr:zj (zo d) n m lo=r)(hl:r.length≤140737488355328){K:SV→St→Prop}{st:St}(hk:K (.sc (.string (ba r))) st) :
  ACalls prog 32 [.agg [.sc (.int .i64 n.kind),.sc (.string (ba n.text)),.sc (.int .i64 n.num),.sc (.int .i64 n.pos),.slice .imm 1 (n.names.map qc),.slice .imm 6 (n.kids.map zq)],.sc (.int .i64 m),.sc (.int .i64 lo)] K st:=by
 have:=RJ hT hg hd hf hr hl hk;rw[qG] at this;exact this
theorem MZ:(⟨#[34]⟩:ByteArray)=ba [34]:=rfl
theorem Ou:(⟨#[92,34]⟩:ByteArray)=ba [92,34]:=rfl
theorem M5:(⟨#[92,92]⟩:ByteArray)=ba [92,92]:=rfl
theorem Mx:(⟨#[92,110]⟩:ByteArray)=ba [92,110]:=rfl
theorem r8:(⟨#[92,120]⟩:ByteArray)=ba [92,120]:=rfl
theorem NV:(⟨#[45]⟩:ByteArray)=ba [45]:=rfl
theorem lZ{n:Int}(h : -9223372036854775808≤n∧n≤9223372036854775807){K:SV→St→Prop}{st:St}(hk:K (.sc (.int .i64 (Z9 n))) st):ACalls prog 109 [.sc (.int .i64 n)] K st:=by
 refine zd [] func109 rfl results109 ntmps109 ?_;by_cases c1:n > 4611686018427387903
 ·have e1:decide (n > 4611686018427387903)=true:=by simp;omega
  have e2:IntKind.i64.wrap (n-4611686018427387904)=n-4611686018427387904:=Je (by omega);have e3:IntKind.i64.wrap (n-4611686018427387904-4611686018427387904)=Z9 n:=by
   rw[Je (by omega)];unfold Z9;simp only[Int.bmod_def];split <;> omega
  simp only[go_sem,gt_iff_lt] at e1 ⊢;simp only[go_sem,gt_iff_lt,e1,e2,e3];exact zy (zi _ _) hk
 have e1:decide (n > 4611686018427387903)=false:=by simp;omega
 by_cases c2:n < -4611686018427387904
 ·have e0:decide (n < -4611686018427387904)=true:=by simp;omega
  have e2:IntKind.i64.wrap (n+4611686018427387904)=n+4611686018427387904:=Je (by omega);have e3:IntKind.i64.wrap (n+4611686018427387904+4611686018427387904)=Z9 n:=by
   rw[Je (by omega)];unfold Z9;simp only[Int.bmod_def];split <;> omega
  simp only[gt_iff_lt] at e1;simp only[go_sem,gt_iff_lt,e0,e1,e2,e3];exact zy (zi _ _) hk
 have e0:decide (n < -4611686018427387904)=false:=by simp;omega
 have e3:Z9 n=n:=by unfold Z9;simp only[Int.bmod_def];split <;> omega
 rw[e3] at hk;simp only[gt_iff_lt] at e1;simp only[go_sem,gt_iff_lt,e0,e1];exact zy (zi _ _) hk
theorem gy(x:UInt8):norm (HX x)=HX x:=rfl
theorem MR(x:UInt8):Yk prog 77 9 (.slice .full 1 [HX x])=True:=eq_true (Kc [x])
theorem Oa(x:UInt8):Jm prog 9 (.slice .full 1 [HX x]) = .sc (.string (ba [x])):=VZ [x]
theorem oY{n:Int}(h : -9223372036854775808≤n∧n≤9223372036854775807){K:SV→St→Prop}{st:St}(hk:K (.sc (.string (ba (Yh n)))) st):ACalls prog 82 [.sc (.int .i64 n)] K st:=by
 refine zd [] func82 rfl results82 ntmps82 ?_;simp only[go_sem];refine lZ h ?_;have hneg:Yh n=(if Z9 n<0 then [45] else [])++KC 20 (Z9 n) []:=rfl;have hw:=BR n;by_cases hz:Z9 n=0
 ·have e1:(Z9 n==0)=true:=by simp[hz]
  rw[hz] at hneg;have e2:Yh n=[48]:=by rw[hneg];rfl
  rw[e2] at hk;simp only[go_sem,e1];exact zy (zi _ _) hk
 have e1:(Z9 n==0)=false:=by simp[hz]
 simp only[go_sem,e1];refine zx [] (fun k env s=>∃ (m:Int) (acc:Tx),k+acc.length=20∧(m≠0→KC k m acc=KC 20 (Z9 n) [])∧(m=0→acc=KC 20 (Z9 n) [])∧m.natAbs<10 ^ k∧m.natAbs≤4611686018427387904∧env=[.sc (.int .i64 m),.any,.any,.sc (.string (ba acc)),.sc (.bool (decide (Z9 n<0))),.any,.any,.any,.any,.any,.any,.any,.any,.any,.any,.any,.any,.any,.any,.any,.any,.any,.any,.any,.any,.any,.any,.any,.any,.any,.any,.any,.any]∧s=st) (n:=20) ?_ ⟨Z9 n,[],rfl,fun _=>rfl,fun x=>absurd x hz,Nat.lt_of_le_of_lt hw (by decide),hw,rfl,rfl⟩ ?_
 ·exact qu
 rintro k env s ⟨m,acc,hk1,hk2,hk3,hm,hm2,rfl,rfl⟩;by_cases hm0:m=0
 ·have c0:(m != 0)=false:=by simp[hm0]
  have ha:=hk3 hm0;by_cases hn:Z9 n<0
  ·have b:decide (Z9 n<0)=true:=by simp[hn]
   rw[if_pos hn,←ha] at hneg;rw[hneg] at hk;have hl:acc.length≤20:=by omega
   simp only[go_sem,c0,b,NV,zP];repeat refine Xs ?_
   exact zy (zi _ _) hk
  ·have b:decide (Z9 n<0)=false:=by simp[hn]
   rw[if_neg hn,←ha] at hneg;rw[hneg] at hk;simp only[go_sem,c0,b];exact zy (zi _ _) hk
 have c0:(m != 0)=true:=by simp[hm0]
 have hk2:=hk2 hm0;obtain⟨q,rfl⟩:∃ q,k=q+1:=⟨k-1,by
  cases k with
  | zero=>simp at hm;omega
  | succ k=>rfl⟩
 obtain⟨f1,f2,f3,f4,f5,f6,f7⟩:=Lm m (by omega) (by omega);have hdg:(if Int.tdiv m 10=0 then UInt8.ofNat (48+(Int.tmod m 10).natAbs)::acc else KC q (Int.tdiv m 10) (UInt8.ofNat (48+(Int.tmod m 10).natAbs)::acc))=KC 20 (Z9 n) []:=hk2;generalize hx:UInt8.ofNat (48+(Int.tmod m 10).natAbs)=x at *;have hby:SV.sc (.int .u8 (x.toNat:Int))=HX x:=rfl;have hq:(Int.tdiv m 10).natAbs<10 ^ q:=by rw[f7];rw[Nat.pow_succ] at hm;omega
 generalize hdd:(Int.tmod m 10).natAbs=dd at *;have hl:acc.length≤20:=by omega
 cases b1:decide (Int.tmod m 10<0) with
 | true =>
  have w0:=f2 b1;simp only[go_sem,c0,b1,w0,f4,f6,PL,PP,f5,hby,H2,H6,pe,gy,MR,Oa,Nat.mul_one,xlC,xlN,xcA,xnA,zP];repeat refine Xs ?_
  refine⟨q,_,by omega,?_,Int.tdiv m 10,x::acc,by simp;omega,fun z=>by rw[←hdg,if_neg z],fun z=>by rw[←hdg,if_pos z],hq,by omega,rfl⟩;exact qu
 | false =>
  have w0:=f3 b1;rw[w0] at b1;simp only[go_sem,c0,b1,w0,f4,f6,PL,PP,f5,hby,H2,H6,pe,gy,MR,Oa,Nat.mul_one,xlC,xlN,xcA,xnA,zP];repeat refine Xs ?_
  refine⟨q,_,by omega,?_,Int.tdiv m 10,x::acc,by simp;omega,fun z=>by rw[←hdg,if_neg z],fun z=>by rw[←hdg,if_pos z],hq,by omega,rfl⟩;exact qu
theorem eg(c:UInt8):IntKind.i64.wrap (Int.tdiv (c.toNat:Int) 16)=((c >>> 4).toNat:Int)∧Int.tmod (c.toNat:Int) 16=((c &&& 15).toNat:Int):=by
 have key:∀ n:Fin 256,IntKind.i64.wrap (Int.tdiv ((UInt8.ofNat n.val).toNat:Int) 16)=((UInt8.ofNat n.val >>> 4).toNat:Int)∧Int.tmod ((UInt8.ofNat n.val).toNat:Int) 16=((UInt8.ofNat n.val &&& 15).toNat:Int):=by
  decide +kernel
 have h:=key ⟨c.toNat,c.toNat_lt⟩;simp only[UInt8.ofNat_toNat] at h;exact h
theorem gS{v:UInt8}(h:v.toNat<16):((hexL.drop v.toNat).take (v.toNat+1-v.toNat))=[YX v]:=by
 unfold YX;generalize v.toNat=n at *;match n,h with
 | 0,_ | 1,_ | 2,_ | 3,_ | 4,_ | 5,_ | 6,_ | 7,_ | 8,_ | 9,_ | 10,_ | 11,_ | 12,_ | 13,_ | 14,_ | 15,_=>rfl
 | n+16,h=>omega
theorem Od(c:UInt8):Yk prog 5 3 (.sc (.int .u8 c.toNat))=True:=eq_true ⟨by kernel_rfl,.inl (by kernel_rfl)⟩
theorem Mn(c:UInt8):Jm prog 3 (.sc (.int .u8 c.toNat)) = .sc (.int .i64 c.toNat):=by
 rw[X4 (k' :=.i64) .u8 _ (by kernel_rfl),Je (by have:=c.toNat_lt;omega)]
theorem ft{s:Tx}(hs:s.length≤100000){K:SV→St→Prop}{st:St}(hk:K (.sc (.string (ba (Ym s)))) st):ACalls prog 83 [.sc (.string (ba s))] K st:=by
 refine zd [] func83 rfl results83 ntmps83 ?_;simp only[go_sem];refine zx [] (fun k env s'=>∃ (i:Nat) (b:Tx),k+i=s.length∧b=34::(s.take i).flatMap qE∧b.length≤1+4*i∧env=[.sc (.string (ba s)),.any,.any,.sc (.string (ba hexL)),.sc (.string (ba b)),.sc (.int .i64 i),.any,.any,.any,.any,.any,.any,.any,.any,.any,.any,.any,.any,.any,.any,.any,.any,.any,.any,.any,.any,.any,.any,.any,.any,.any,.any,.any,.any,.any,.any,.any,.any,.any,.any,.any,.any,.any,.any,.any,.any,.any,.any,.any,.any,.any,.any,.any,.any,.any,.any,.any,.any,.any,.any,.any,.any,.any,.any,.any]∧s'=st) (n:=s.length) ?_ ⟨0,[34],by omega,by simp,by simp,rfl,rfl⟩ ?_
 ·exact qu
 rintro k env s' ⟨i,b,hi,hb,hbl,rfl,rfl⟩;by_cases hlt:i<s.length
 rotate_left
 ·have c2:decide ((i:Int)<(s.length:Int))=false:=by simp;omega
  have e:b++[34]=Ym s:=by
   rw[List.take_of_length_le (by omega)] at hb;rw[hb];rfl
  simp only[go_sem,zg,c2,MZ,zP,e];repeat refine Xs ?_
  exact zy (zi _ _) hk
 have c2:decide ((i:Int)<(s.length:Int))=true:=by simp;omega
 have w1:IntKind.i64.wrap ((i:Int)+1)=((i+1:Nat):Int):=by rw[IntWalk.i64_in _ (by omega)];rfl
 have hgk:(ba s).get! i=s[i]:=ZJ hlt;have hst:=GJ s i hlt;have hcut:(s.drop i).take (i+1-i)=[s[i]]:=by
  rw[show i+1-i=1 by omega,List.drop_eq_getElem_cons hlt];rfl
 generalize hc:s[i]=c at *;have g1:=ZC c 10 10 rfl;have g2:=ZC c 34 34 rfl;have g3:=ZC c 92 92 rfl;have g4:=UJ c 32 32 rfl;have g5:=UH c 126 126 rfl;have hql:=G9 c;by_cases h34:c=34
 ·have d2:(c==34)=true:=by simp[h34]
  have hq:qE c=[92,34]:=by subst h34;rfl
  rw[hq] at hst;simp only[go_sem,c2,zg,hgk,w1,g2,d2,Ou,zP];repeat refine Xs ?_
  refine⟨k-1,_,by omega,?_,i+1,b++[92,34],by omega,by rw[hst,hb];rfl,by simp;omega,rfl⟩;exact qu
 have d2:(c==34)=false:=by simp[h34]
 by_cases h92:c=92
 ·have d3:(c==92)=true:=by simp[h92]
  have hq:qE c=[92,92]:=by subst h92;rfl
  rw[hq] at hst;simp only[go_sem,c2,zg,hgk,w1,g2,d2,g3,d3,M5,zP];repeat refine Xs ?_
  refine⟨k-1,_,by omega,?_,i+1,b++[92,92],by omega,by rw[hst,hb];rfl,by simp;omega,rfl⟩;exact qu
 have d3:(c==92)=false:=by simp[h92]
 by_cases h10:c=10
 ·have d1:(c==10)=true:=by simp[h10]
  have hq:qE c=[92,110]:=by subst h10;rfl
  rw[hq] at hst;simp only[go_sem,c2,zg,hgk,w1,g1,d1,g2,d2,g3,d3,Mx,zP];repeat refine Xs ?_
  refine⟨k-1,_,by omega,?_,i+1,b++[92,110],by omega,by rw[hst,hb];rfl,by simp;omega,rfl⟩;exact qu
 have d1:(c==10)=false:=by simp[h10]
 have hpl:YK c=(decide (32≤c)&&decide (c≤126)):=by
  unfold YK;have n2:(c != 34)=true:=by simp[h34]
  have n3:(c != 92)=true:=by simp[h92]
  rw[n2,n3,Bool.and_true,Bool.and_true]
 by_cases hp:YK c=true
 ·have hq:qE c=[c]:=by unfold qE;rw[if_pos hp]
  rw[hq] at hst;rw[hpl,XT] at hp;obtain⟨p1,p2⟩:=hp;simp only[go_sem,c2,zg,hgk,w1,g1,d1,g2,d2,g3,d3,ge_iff_le,g4,g5,p1,p2,qM,hcut,zP];repeat refine Xs ?_
  refine⟨k-1,_,by omega,?_,i+1,b++[c],by omega,by rw[hst,hb];rfl,by simp;omega,rfl⟩;exact qu
 have hq:qE c=[92,120,YX (c >>> 4),YX (c &&& 15)]:=by
  unfold qE;rw[if_neg hp,if_neg h10,if_neg (by rintro (h | h) <;> contradiction)]
 rw[hq] at hst;have q4:=(Km c).1;have q15:=(Km c).2.1;have r4:=gS q4;have r15:=gS q15;obtain⟨z1,z2⟩:=eg c;have w4:IntKind.i64.wrap (((c >>> 4).toNat:Int)+1)=(((c >>> 4).toNat+1:Nat):Int):=by rw[IntWalk.i64_in _ (by omega)];rfl
 have w5:IntKind.i64.wrap (((c &&& 15).toNat:Int)+1)=(((c &&& 15).toNat+1:Nat):Int):=by rw[IntWalk.i64_in _ (by omega)];rfl
 have hh:hexL.length=16:=rfl;have hfin:∀ (x:Tx),b++x=b++x:=fun x=>rfl;cases p1:decide (32≤c) with
 | false =>
  simp only[go_sem,c2,zg,hgk,w1,g1,d1,g2,d2,g3,d3,ge_iff_le,g4,g5,p1,Od,Mn,z1,z2];refine⟨by omega,?_⟩;refine zC [] mixed rfl ?_;simp only[go_sem,w4,w5,zg,hh,qM,r4,r15,r8,zP,xaA,xcA,xnA,w1];repeat refine Xs ?_
  refine⟨k-1,_,by omega,?_,i+1,b++[92,120,YX (c >>> 4),YX (c &&& 15)],by omega,by rw[hst,hb];rfl,by simp;omega,rfl⟩;exact qu
 | true =>
  have p2:decide (c≤126)=false:=by
   rw[hpl,p1,Bool.true_and] at hp;simpa using hp
  simp only[go_sem,c2,zg,hgk,w1,g1,d1,g2,d2,g3,d3,ge_iff_le,g4,g5,p1,p2,Od,Mn,z1,z2];refine⟨by omega,?_⟩;refine zC [] mixed rfl ?_;simp only[go_sem,w4,w5,zg,hh,qM,r4,r15,r8,zP,xaA,xcA,xnA,w1];repeat refine Xs ?_
  refine⟨k-1,_,by omega,?_,i+1,b++[92,120,YX (c >>> 4),YX (c &&& 15)],by omega,by rw[hst,hb];rfl,by simp;omega,rfl⟩;exact qu
end Go.Proofs
