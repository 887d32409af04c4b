/- The document's word, is, Wrap, Show, Quote. -/
import Derived.Test.YtkokccjfpebomaaGreatDoorS4
import Derived.Test.YtkokccjfpebomaaGreatDoorD1
set_option linter.all false
set_option maxHeartbeats 4000000
set_option maxRecDepth 8000
namespace Go.AL
def kindsL:List Int:=[15,16,17,18,21,22,23,20]
def wordsL:List Tx:=[[112,114,105,110,116],[114,97,105,115,101],[115,112,97,119,110],[97,116,111,109,105,99,97,108,108,121],[116,118,97,114],[114,101,97,100],[119,114,105,116,101],[111,114,101,108,115,101]]
theorem bL{k:Int}{i:Nat}(h:i<8)(he:kindsL.getD i 0=k):qM k=wordsL.getD i []:=by
 subst he;match i,h with
 | 0,_ | 1,_ | 2,_ | 3,_ | 4,_ | 5,_ | 6,_ | 7,_=>rfl
 | i+8,h=>omega
theorem cZ{k:Int}(h:∀ i,i<8→kindsL.getD i 0≠k):qM k=[]:=by
 have h0:=h 0 (by decide);have h1:=h 1 (by decide);have h2:=h 2 (by decide);have h3:=h 3 (by decide);have h4:=h 4 (by decide);have h5:=h 5 (by decide);have h6:=h 6 (by decide);have h7:=h 7 (by decide);simp only[kindsL,List.getD_cons_zero,xgS] at h0 h1 h2 h3 h4 h5 h6 h7;unfold qM;rw[if_neg (fun e=>h0 e.symm),if_neg (fun e=>h1 e.symm),if_neg (fun e=>h2 e.symm),if_neg (fun e=>h3 e.symm),if_neg (fun e=>h4 e.symm),if_neg (fun e=>h5 e.symm),if_neg (fun e=>h6 e.symm),if_neg (fun e=>h7 e.symm)]
end Go.AL
namespace Go.Proofs
open Go Go.AL Tryz
variable {K:SV→St→Prop}{st:St}
def CJ(k:Int):SV :=.sc (.int .i64 k)
theorem pi{i:Nat}(h:i<8):(kindsL.map CJ).getD i .any = .sc (.int .i64 (kindsL.getD i 0)):=by
 match i,h with
 | 0,_ | 1,_ | 2,_ | 3,_ | 4,_ | 5,_ | 6,_ | 7,_=>rfl
 | i+8,h=>omega
theorem ph{i:Nat}(h:i<8):(wordsL.map z8).getD i .any = .sc (.string (ba (wordsL.getD i []))):=by
 match i,h with
 | 0,_ | 1,_ | 2,_ | 3,_ | 4,_ | 5,_ | 6,_ | 7,_=>rfl
 | i+8,h=>omega
theorem ZP{k:Int}{r:Tx}(hr:qM k=r)(hk:K (.sc (.string (ba r))) st):ACalls prog 81 [.sc (.int .i64 k)] K st:=by
 refine zc [] func81 rfl results81 ntmps81 ?_;simp only[go_sem];refine zt [] (fun q env s=>∃ i:Nat,q+i=8∧(∀ j,j<i→kindsL.getD j 0≠k)∧env=(.sc (.int .i64 k) :: .any :: .any :: .slice .full 1 (kindsL.map CJ) :: .slice .full 1 (wordsL.map z8) :: .sc (.int .i64 i)::X3 [])∧s=st) (n:=8) ?_ ⟨0,rfl,fun j hj=>by omega,rfl,rfl⟩ ?_
 ·exact qv
 rintro q env s ⟨i,hq,hne,rfl,rfl⟩;by_cases hlt:i<8
 ·have c2:decide ((i:Int)<8)=true:=by simp;omega
  have w1:=KL i;have g1:=pi hlt;have g2:=ph hlt;by_cases he:kindsL.getD i 0=k
  ·have b1:(kindsL.getD i 0==k)=true:=by simp only[he,beq_self_eq_true]
   rw[bL hlt he] at hr;subst hr;simp only[go_sem,c2,w1,g1,g2,b1,xlM,show kindsL.length=8 from rfl,show wordsL.length=8 from rfl];refine⟨by omega,by omega,?_⟩;exact zu (zh _ _) hk
  ·have b1:(kindsL.getD i 0==k)=false:=by rw[beq_eq_false_iff_ne];exact he
   simp only[go_sem,c2,w1,g1,b1,xlM,show kindsL.length=8 from rfl];refine⟨by omega,q-1,_,by omega,?_,i+1,by omega,fun j hj=>?_,rfl⟩
   ·exact qv
   ·by_cases hji:j=i
    ·rw[hji];exact he
    ·exact hne j (by omega)
 ·have c2:decide ((i:Int)<8)=false:=by simp;omega
  rw[cZ (fun j hj=>hne j (by omega))] at hr;subst hr;simp only[go_sem,c2];exact zu (zh _ _) hk
theorem ku{n:Nd}{r:Int}(hr:qO n=r)(hk:K (.sc (.int .i64 r)) st):ACalls prog 51 [zq n] K st:=by
 refine zc [] func51 rfl results51 ntmps51 ?_;subst hr;unfold qO at hk;by_cases c13:n.kind=13
 ·have e13:(n.kind==13)=true:=by simp[c13]
  rw[if_neg (by rw[c13];decide),if_neg (by rw[c13];decide),if_pos c13] at hk;have hb:∀ x:Tx,n.text=x→(n.text==x)=true:=fun x h=>by simp[h]
  have hn:∀ x:Tx,n.text≠x→(n.text==x)=false:=fun x h=>by simp[h]
  unfold ZD at hk;by_cases t61:n.text=[61]
  ·have u61:=hb _ t61;rw[if_pos (by simp only[t61,true_or,or_true])] at hk;simp only[go_sem,za,e13,Qy,u61];exact zu (zh _ _) hk
  have u61:=hn _ t61;by_cases t60:n.text=[60]
  ·have u60:=hb _ t60;rw[if_pos (by simp only[t60,true_or,or_true])] at hk;simp only[go_sem,za,e13,Qy,u61,u60];exact zu (zh _ _) hk
  have u60:=hn _ t60;by_cases t43:n.text=[43]
  ·have u43:=hb _ t43;rw[if_neg (by simp only[t61,t60,or_self,not_false_eq_true]),if_pos (by simp only[t43,true_or,or_true])] at hk;simp only[go_sem,za,e13,Qy,u61,u60,u43];exact zu (zh _ _) hk
  have u43:=hn _ t43;by_cases t45:n.text=[45]
  ·have u45:=hb _ t45;rw[if_neg (by simp only[t61,t60,or_self,not_false_eq_true]),if_pos (by simp only[t45,true_or,or_true])] at hk;simp only[go_sem,za,e13,Qy,u61,u60,u43,u45];exact zu (zh _ _) hk
  have u45:=hn _ t45;by_cases t94:n.text=[94]
  ·have u94:=hb _ t94;rw[if_neg (by simp only[t61,t60,or_self,not_false_eq_true]),if_pos (by simp only[t94,true_or,or_true])] at hk;simp only[go_sem,za,e13,Qy,u61,u60,u43,u45,u94];exact zu (zh _ _) hk
  have u94:=hn _ t94;rw[if_neg (by simp only[t61,t60,or_self,not_false_eq_true]),if_neg (by simp only[t43,t45,t94,or_self,not_false_eq_true])] at hk;simp only[go_sem,za,e13,Qy,u61,u60,u43,u45,u94];exact zu (zh _ _) hk
 have e13:(n.kind==13)=false:=by simp[c13]
 by_cases c14:n.kind=14
 ·have e14:(n.kind==14)=true:=by simp[c14]
  rw[if_pos c14] at hk;simp only[go_sem,za,e13,e14];exact zu (zh _ _) hk
 have e14:(n.kind==14)=false:=by simp[c14]
 rw[if_neg c14] at hk;by_cases c8:n.kind=8
 ·have e8:(n.kind==8)=true:=by simp[c8]
  rw[if_pos (by simp only[c8,true_or,or_true])] at hk;simp only[go_sem,za,e13,e14,e8];exact zu (zh _ _) hk
 have e8:(n.kind==8)=false:=by simp[c8]
 by_cases c9:n.kind=9
 ·have e9:(n.kind==9)=true:=by simp[c9]
  rw[if_pos (by simp only[c9,true_or,or_true])] at hk;simp only[go_sem,za,e13,e14,e8,e9];exact zu (zh _ _) hk
 have e9:(n.kind==9)=false:=by simp[c9]
 by_cases c6:n.kind=6
 ·have e6:(n.kind==6)=true:=by simp[c6]
  rw[if_pos (by simp only[c6,true_or,or_true])] at hk;simp only[go_sem,za,e13,e14,e8,e9,e6];exact zu (zh _ _) hk
 have e6:(n.kind==6)=false:=by simp[c6]
 by_cases c10:n.kind=10
 ·have e10:(n.kind==10)=true:=by simp[c10]
  rw[if_pos (by simp only[c10,true_or,or_true])] at hk;simp only[go_sem,za,e13,e14,e8,e9,e6,e10];exact zu (zh _ _) hk
 have e10:(n.kind==10)=false:=by simp[c10]
 rw[if_neg (by simp only[c8,c9,c6,c10,or_self,not_false_eq_true]),if_neg c13] at hk;by_cases c7:n.kind=7
 ·have e7:(n.kind==7)=true:=by simp[c7]
  rw[if_pos c7] at hk;simp only[go_sem,za,e13,e14,e8,e9,e6,e10,e7];exact zu (zh _ _) hk
 have e7:(n.kind==7)=false:=by simp[c7]
 rw[if_neg c7] at hk;by_cases c5:n.kind=5
 ·have e5:(n.kind==5)=true:=by simp[c5]
  rw[if_pos c5] at hk;by_cases c0:0<n.kids.length
  ·have e0:decide (0<(n.kids.length:Int))=true:=by rw[decide_eq_true_eq];omega
   rw[if_pos c0] at hk;simp only[go_sem,za,xlM,gt_iff_lt,e13,e14,e8,e9,e6,e10,e7,e5,e0];exact zu (zh _ _) hk
  ·have e0:decide (0<(n.kids.length:Int))=false:=by rw[decide_eq_false_iff_not];omega
   have hky:qM n.kind=[]:=by rw[c5];rfl
   rw[if_neg c0] at hk;simp only[go_sem,za,xlM,gt_iff_lt,e13,e14,e8,e9,e6,e10,e7,e5,e0];refine ZP hky ?_;simp only[go_sem,za,xlM,gt_iff_lt,qP,e13,e14,e8,e9,e6,e10,e7,e5,e0];exact zu (zh _ _) hk
 have e5:(n.kind==5)=false:=by simp[c5]
 rw[if_neg c5] at hk;by_cases hky:qM n.kind=[]
 ·rw[if_neg (by rw[hky];simp)] at hk;simp only[go_sem,za,xlM,gt_iff_lt,e13,e14,e8,e9,e6,e10,e7,e5];refine ZP hky ?_;simp only[go_sem,za,xlM,gt_iff_lt,qP,e13,e14,e8,e9,e6,e10,e7,e5];exact zu (zh _ _) hk
 ·have hb:(!(qM n.kind==[]))=true:=by simp[hky]
  rw[if_pos hky] at hk;simp only[go_sem,za,xlM,gt_iff_lt,e13,e14,e8,e9,e6,e10,e7,e5];refine ZP rfl ?_;simp only[go_sem,za,xlM,gt_iff_lt,hb,Qy,e13,e14,e8,e9,e6,e10,e7,e5];exact zu (zh _ _) hk
theorem lY:(⟨#[40,32]⟩:ByteArray)=ba [40,32]:=rfl
theorem aq:(⟨#[32,41]⟩:ByteArray)=ba [32,41]:=rfl
theorem uA:(⟨#[32]⟩:ByteArray)=ba [32]:=rfl
theorem Nl:(⟨#[102,117,110,32]⟩:ByteArray)=ba [102,117,110,32]:=rfl
theorem NX:(⟨#[32,45,62,32]⟩:ByteArray)=ba [32,45,62,32]:=rfl
theorem Nm:(⟨#[108,101,116,32]⟩:ByteArray)=ba [108,101,116,32]:=rfl
theorem NI:(⟨#[108,101,116,32,114,101,99,32]⟩:ByteArray)=ba [108,101,116,32,114,101,99,32]:=rfl
theorem NO:(⟨#[32,61,32]⟩:ByteArray)=ba [32,61,32]:=rfl
theorem Ni:(⟨#[32,105,110,32]⟩:ByteArray)=ba [32,105,110,32]:=rfl
theorem NK:(⟨#[105,102,32]⟩:ByteArray)=ba [105,102,32]:=rfl
theorem AV:(⟨#[32,116,104,101,110,32]⟩:ByteArray)=ba [32,116,104,101,110,32]:=rfl
theorem C6:(⟨#[32,101,108,115,101,32]⟩:ByteArray)=ba [32,101,108,115,101,32]:=rfl
theorem Iz:(⟨#[116,114,121,32]⟩:ByteArray)=ba [116,114,121,32]:=rfl
theorem Cg:(⟨#[32,119,105,116,104,32]⟩:ByteArray)=ba [32,119,105,116,104,32]:=rfl
theorem AX:(⟨#[32,101,110,100]⟩:ByteArray)=ba [32,101,110,100]:=rfl
theorem Co:(⟨#[32,59,32]⟩:ByteArray)=ba [32,59,32]:=rfl
theorem AF:(⟨#[109,97,116,99,104,32]⟩:ByteArray)=ba [109,97,116,99,104,32]:=rfl
theorem I0:(⟨#[32,119,105,116,104]⟩:ByteArray)=ba [32,119,105,116,104]:=rfl
theorem II:(⟨#[32,124,32]⟩:ByteArray)=ba [32,124,32]:=rfl
theorem ZK:((⟨#[40,32]⟩:ByteArray)=ba [40,32])∧((⟨#[32,41]⟩:ByteArray)=ba [32,41])∧((⟨#[32]⟩:ByteArray)=ba [32])∧((⟨#[102,117,110,32]⟩:ByteArray)=ba [102,117,110,32])∧((⟨#[32,45,62,32]⟩:ByteArray)=ba [32,45,62,32])∧((⟨#[108,101,116,32]⟩:ByteArray)=ba [108,101,116,32])∧((⟨#[108,101,116,32,114,101,99,32]⟩:ByteArray)=ba [108,101,116,32,114,101,99,32])∧((⟨#[32,61,32]⟩:ByteArray)=ba [32,61,32])∧((⟨#[32,105,110,32]⟩:ByteArray)=ba [32,105,110,32])∧((⟨#[105,102,32]⟩:ByteArray)=ba [105,102,32])∧((⟨#[32,116,104,101,110,32]⟩:ByteArray)=ba [32,116,104,101,110,32])∧((⟨#[32,101,108,115,101,32]⟩:ByteArray)=ba [32,101,108,115,101,32])∧((⟨#[116,114,121,32]⟩:ByteArray)=ba [116,114,121,32])∧((⟨#[32,119,105,116,104,32]⟩:ByteArray)=ba [32,119,105,116,104,32])∧((⟨#[32,101,110,100]⟩:ByteArray)=ba [32,101,110,100])∧((⟨#[32,59,32]⟩:ByteArray)=ba [32,59,32])∧((⟨#[109,97,116,99,104,32]⟩:ByteArray)=ba [109,97,116,99,104,32])∧((⟨#[32,119,105,116,104]⟩:ByteArray)=ba [32,119,105,116,104])∧((⟨#[32,124,32]⟩:ByteArray)=ba [32,124,32]):=⟨lY,aq,uA,Nl,NX,Nm,NI,NO,Ni,NK,AV,C6,Iz,Cg,AX,Co,AF,I0,II⟩
def GN(n:Nd):Prop:=GE n∧Nr n
theorem GN.kids{n:Nd}(h:GN n):∀ c∈n.kids,GN c:=fun c hc=>⟨h.1.kids c hc,h.2.kids c hc⟩
def RtC(d:Nat):Prop:=∀ (n:Nd) (lo:Int) (r:Tx),GN n→Dep d n→Fit n→zn d n lo=r→r.length≤140737488355328→∀ (K:SV→St→Prop) (st:St),K (.sc (.string (ba r))) st→ACalls prog 52 [zq n,.sc (.int .i64 lo)] K st
theorem RtC.agg{d:Nat}(hT:RtC d){n:Nd}{lo:Int}{r:Tx}(hg:GN n)(hd:Dep d n)(hf:Fit n)(hr:zn d n lo=r)(hl:r.length≤140737488355328)(hk:K (.sc (.string (ba r))) st) :
  ACalls prog 52 [.agg [.sc (.int .i64 n.kind),.sc (.string (ba n.text)),.sc (.int .i64 n.num),.sc (.int .i64 n.pos),.slice .imm 1 (n.names.map z8),.slice .imm 6 (n.kids.map zq)],.sc (.int .i64 lo)] K st:=by
 have:=hT n lo r hg hd hf hr hl K st hk;rw[qR] at this;exact this
theorem Nf{n:Nd}{r:Int}(hr:qO n=r)(hk:K (.sc (.int .i64 r)) st) :
  ACalls prog 51 [.agg [.sc (.int .i64 n.kind),.sc (.string (ba n.text)),.sc (.int .i64 n.num),.sc (.int .i64 n.pos),.slice .imm 1 (n.names.map z8),.slice .imm 6 (n.kids.map zq)]] K st:=by
 have:=ku hr hk;rw[qR] at this;exact this
theorem QQ{n:Nd}(h:GN n){i:Nat}(hi:i<n.kids.length):GN (kid n i):=by
 unfold kid;rw[xgE,List.getElem?_eq_getElem hi];exact h.kids _ (List.getElem_mem hi)
theorem NR{d:Nat}(hT:RtC d){n:Nd}(hg:GN n)(hd:Dep d n)(hf:Fit n){m lo:Int}{r:Tx}(hr:zg (zn d) n m lo=r)(hl:r.length≤140737488355328)(hk:K (.sc (.string (ba r))) st) :
  ACalls prog 32 [zq n,.sc (.int .i64 m),.sc (.int .i64 lo)] K st:=by
 refine zc [] func32 rfl results32 ntmps32 ?_;unfold zg at hr;by_cases c:m<qO n∨n.kind=5∧m=1
 ·rw[if_pos c] at hr;have hl0:=hl;rw[←hr,qU] at hl0;have hl1:(zn d n 7).length≤140737488355328:=by omega
  have e:(40::32::(zn d n 7++[32,41]):Tx)=r:=by rw[←hr];rfl
  by_cases c1:m<qO n
  ·have b1:decide (m<qO n)=true:=by simp[c1]
   simp only[go_sem];refine ku rfl ?_;simp only[go_sem,za,b1];refine hT.agg hg hd hf rfl hl1 ?_;simp only[go_sem,lY,aq,zL,xaA,xcA,xnA,e];repeat (refine⟨by (first | omega | (simp only[xsA,xlA,xlC,xlN];omega)),?_⟩)
   exact zu (zh _ _) hk
  ·have b1:decide (m<qO n)=false:=by simp[c1]
   have b2:(n.kind==5)=true:=by have:=c.resolve_left c1;simp[this.1]
   have b3:(m==1)=true:=by have:=c.resolve_left c1;simp[this.2]
   simp only[go_sem];refine ku rfl ?_;simp only[go_sem,za,b1,b2,b3];refine hT.agg hg hd hf rfl hl1 ?_;simp only[go_sem,lY,aq,zL,xaA,xcA,xnA,e];repeat (refine⟨by (first | omega | (simp only[xsA,xlA,xlC,xlN];omega)),?_⟩)
   exact zu (zh _ _) hk
 ·rw[if_neg c] at hr;have b1:decide (m<qO n)=false:=by simp only[decide_eq_false_iff_not];exact fun x=>c (.inl x)
  by_cases c2:n.kind=5
  ·have b2:(n.kind==5)=true:=by simp[c2]
   have b3:(m==1)=false:=by simp;exact fun x=>c (.inr ⟨c2,x⟩)
   simp only[go_sem];refine ku rfl ?_;simp only[go_sem,za,b1,b2,b3];refine hT.agg hg hd hf hr hl ?_;simp only[go_sem];exact zu (zh _ _) hk
  ·have b2:(n.kind==5)=false:=by simp[c2]
   simp only[go_sem];refine ku rfl ?_;simp only[go_sem,za,b1,b2];refine hT.agg hg hd hf hr hl ?_;simp only[go_sem];exact zu (zh _ _) hk
theorem HA{d:Nat}(hT:RtC d){n:Nd}(hg:GN n)(hd:Dep d n)(hf:Fit n){m lo:Int}{r:Tx}(hr:zg (zn d) n m lo=r)(hl:r.length≤140737488355328)(hk:K (.sc (.string (ba r))) st) :
  ACalls prog 32 [.agg [.sc (.int .i64 n.kind),.sc (.string (ba n.text)),.sc (.int .i64 n.num),.sc (.int .i64 n.pos),.slice .imm 1 (n.names.map z8),.slice .imm 6 (n.kids.map zq)],.sc (.int .i64 m),.sc (.int .i64 lo)] K st:=by
 have:=NR hT hg hd hf hr hl hk;rw[qR] at this;exact this
theorem AE:(⟨#[34]⟩:ByteArray)=ba [34]:=rfl
theorem Ie:(⟨#[92,34]⟩:ByteArray)=ba [92,34]:=rfl
theorem A3:(⟨#[92,92]⟩:ByteArray)=ba [92,92]:=rfl
theorem AK:(⟨#[92,110]⟩:ByteArray)=ba [92,110]:=rfl
theorem eX:(⟨#[92,120]⟩:ByteArray)=ba [92,120]:=rfl
theorem AP:(⟨#[45]⟩:ByteArray)=ba [45]:=rfl
theorem oG{n:Int}(h : -9223372036854775808≤n∧n≤9223372036854775807)(hk:K (.sc (.int .i64 (ZW n))) st):ACalls prog 109 [.sc (.int .i64 n)] K st:=by
 refine zc [] func109 rfl results109 ntmps109 ?_;by_cases c1:n > 4611686018427387903
 ·have e1:decide (n > 4611686018427387903)=true:=by simp;omega
  have e2:IntKind.i64.wrap (n-4611686018427387904)=n-4611686018427387904:=YO (by omega);have e3:IntKind.i64.wrap (n-4611686018427387904-4611686018427387904)=ZW n:=by
   rw[YO (by omega)];unfold ZW;simp only[Int.bmod_def];split <;> omega
  simp only[go_sem,gt_iff_lt] at e1 ⊢;simp only[go_sem,gt_iff_lt,e1,e2,e3];exact zu (zh _ _) hk
 have e1:decide (n > 4611686018427387903)=false:=by simp;omega
 by_cases c2:n < -4611686018427387904
 ·have e0:decide (n < -4611686018427387904)=true:=by simp;omega
  have e2:IntKind.i64.wrap (n+4611686018427387904)=n+4611686018427387904:=YO (by omega);have e3:IntKind.i64.wrap (n+4611686018427387904+4611686018427387904)=ZW n:=by
   rw[YO (by omega)];unfold ZW;simp only[Int.bmod_def];split <;> omega
  simp only[gt_iff_lt] at e1;simp only[go_sem,gt_iff_lt,e0,e1,e2,e3];exact zu (zh _ _) hk
 have e0:decide (n < -4611686018427387904)=false:=by simp;omega
 have e3:ZW n=n:=by unfold ZW;simp only[Int.bmod_def];split <;> omega
 rw[e3] at hk;simp only[gt_iff_lt] at e1;simp only[go_sem,gt_iff_lt,e0,e1];exact zu (zh _ _) hk
theorem yw(x:UInt8):norm (Hf x)=Hf x:=rfl
theorem Iq(x:UInt8):Yc prog 77 9 (.slice .full 1 [Hf x])=True:=eq_true (WR [x])
theorem IP(x:UInt8):Y5 prog 9 (.slice .full 1 [Hf x]) = .sc (.string (ba [x])):=VD [x]
theorem tm{n:Int}(h : -9223372036854775808≤n∧n≤9223372036854775807)(hk:K (.sc (.string (ba (X8 n)))) st):ACalls prog 82 [.sc (.int .i64 n)] K st:=by
 refine zc [] func82 rfl results82 ntmps82 ?_;simp only[go_sem];refine oG h ?_;have hneg:X8 n=(if ZW n<0 then [45] else [])++W5 20 (ZW n) []:=rfl;have hw:=G0 n;by_cases hz:ZW n=0
 ·have e1:(ZW n==0)=true:=by simp[hz]
  rw[hz] at hneg;have e2:X8 n=[48]:=by rw[hneg];rfl
  rw[e2] at hk;simp only[go_sem,e1];exact zu (zh _ _) hk
 have e1:(ZW n==0)=false:=by simp[hz]
 simp only[go_sem,e1];refine zt [] (fun k env s=>∃ (m:Int) (acc:Tx),k+acc.length=20∧(m≠0→W5 k m acc=W5 20 (ZW n) [])∧(m=0→acc=W5 20 (ZW n) [])∧m.natAbs<10 ^ k∧m.natAbs≤4611686018427387904∧env=(.sc (.int .i64 m) :: .any :: .any :: .sc (.string (ba acc)) :: .sc (.bool (decide (ZW n<0)))::XQ (JW (X3 [])))∧s=st) (n:=20) ?_ ⟨ZW n,[],rfl,fun _=>rfl,fun x=>absurd x hz,Nat.lt_of_le_of_lt hw (by decide),hw,rfl,rfl⟩ ?_
 ·exact qv
 rintro k env s ⟨m,acc,hk1,hk2,hk3,hm,hm2,rfl,rfl⟩;by_cases hm0:m=0
 ·have c0:(m != 0)=false:=by simp[hm0]
  have ha:=hk3 hm0;by_cases hn:ZW n<0
  ·have b:decide (ZW n<0)=true:=by simp[hn]
   rw[if_pos hn,←ha] at hneg;rw[hneg] at hk;have hl:acc.length≤20:=by omega
   simp only[go_sem,c0,b,AP,zL];repeat refine Xb ?_
   exact zu (zh _ _) hk
  ·have b:decide (ZW n<0)=false:=by simp[hn]
   rw[if_neg hn,←ha] at hneg;rw[hneg] at hk;simp only[go_sem,c0,b];exact zu (zh _ _) hk
 have c0:(m != 0)=true:=by simp[hm0]
 have hk2:=hk2 hm0;obtain⟨q,rfl⟩:∃ q,k=q+1:=⟨k-1,by
  cases k with
  | zero=>simp at hm;omega
  | succ k=>rfl⟩
 obtain⟨f1,f2,f3,f4,f5,f6,f7⟩:=Fb m (by omega) (by omega);have hdg:(if Int.tdiv m 10=0 then UInt8.ofNat (48+(Int.tmod m 10).natAbs)::acc else W5 q (Int.tdiv m 10) (UInt8.ofNat (48+(Int.tmod m 10).natAbs)::acc))=W5 20 (ZW n) []:=hk2;generalize hx:UInt8.ofNat (48+(Int.tmod m 10).natAbs)=x at *;have hby:SV.sc (.int .u8 (x.toNat:Int))=Hf x:=rfl;have hq:(Int.tdiv m 10).natAbs<10 ^ q:=by rw[f7];rw[Nat.pow_succ] at hm;omega
 generalize hdd:(Int.tmod m 10).natAbs=dd at *;have hl:acc.length≤20:=by omega
 cases b1:decide (Int.tmod m 10<0) with
 | true =>
  have w0:=f2 b1;simp only[go_sem,c0,b1,w0,f4,f6,ML,Mf,f5,hby,UD,Hy,yg,yw,Iq,IP,Nat.mul_one,xlC,xlN,xcA,xnA,zL];repeat refine Xb ?_
  refine⟨q,_,by omega,?_,Int.tdiv m 10,x::acc,by simp;omega,fun z=>by rw[←hdg,if_neg z],fun z=>by rw[←hdg,if_pos z],hq,by omega,rfl⟩;exact qv
 | false =>
  have w0:=f3 b1;rw[w0] at b1;simp only[go_sem,c0,b1,w0,f4,f6,ML,Mf,f5,hby,UD,Hy,yg,yw,Iq,IP,Nat.mul_one,xlC,xlN,xcA,xnA,zL];repeat refine Xb ?_
  refine⟨q,_,by omega,?_,Int.tdiv m 10,x::acc,by simp;omega,fun z=>by rw[←hdg,if_neg z],fun z=>by rw[←hdg,if_pos z],hq,by omega,rfl⟩;exact qv
theorem fu(c:UInt8):IntKind.i64.wrap (Int.tdiv (c.toNat:Int) 16)=((c >>> 4).toNat:Int)∧Int.tmod (c.toNat:Int) 16=((c &&& 15).toNat:Int):=by
 have key:∀ n:Fin 256,IntKind.i64.wrap (Int.tdiv ((UInt8.ofNat n.val).toNat:Int) 16)=((UInt8.ofNat n.val >>> 4).toNat:Int)∧Int.tmod ((UInt8.ofNat n.val).toNat:Int) 16=((UInt8.ofNat n.val &&& 15).toNat:Int):=by
  decide +kernel
 have h:=key ⟨c.toNat,c.toNat_lt⟩;simp only[UInt8.ofNat_toNat] at h;exact h
theorem xm{v:UInt8}(h:v.toNat<16):((hexL.drop v.toNat).take (v.toNat+1-v.toNat))=[YL v]:=by
 unfold YL;generalize v.toNat=n at *;match n,h with
 | 0,_ | 1,_ | 2,_ | 3,_ | 4,_ | 5,_ | 6,_ | 7,_ | 8,_ | 9,_ | 10,_ | 11,_ | 12,_ | 13,_ | 14,_ | 15,_=>rfl
 | n+16,h=>omega
theorem Ix(c:UInt8):Yc prog 5 3 (.sc (.int .u8 c.toNat))=True:=eq_true ⟨by kernel_rfl,.inl (by kernel_rfl)⟩
theorem C8(c:UInt8):Y5 prog 3 (.sc (.int .u8 c.toNat)) = .sc (.int .i64 c.toNat):=by
 rw[XU (k' :=.i64) .u8 _ (by kernel_rfl),YO (by have:=c.toNat_lt;omega)]
theorem cO{s:Tx}(hs:s.length≤100000)(hk:K (.sc (.string (ba (X' s)))) st):ACalls prog 83 [.sc (.string (ba s))] K st:=by
 refine zc [] func83 rfl results83 ntmps83 ?_;simp only[go_sem];refine zt [] (fun k env s'=>∃ (i:Nat) (b:Tx),k+i=s.length∧b=34::(s.take i).flatMap qB∧b.length≤1+4*i∧env=(.sc (.string (ba s)) :: .any :: .any :: .sc (.string (ba hexL)) :: .sc (.string (ba b)) :: .sc (.int .i64 i) :: .any :: .any :: .any::JW (X3 (XD [])))∧s'=st) (n:=s.length) ?_ ⟨0,[34],by omega,by simp,by simp,rfl,rfl⟩ ?_
 ·exact qv
 rintro k env s' ⟨i,b,hi,hb,hbl,rfl,rfl⟩;by_cases hlt:i<s.length
 rotate_left
 ·have c2:decide ((i:Int)<(s.length:Int))=false:=by simp;omega
  have e:b++[34]=X' s:=by
   rw[List.take_of_length_le (by omega)] at hb;rw[hb];rfl
  simp only[go_sem,zf,c2,AE,zL,e];repeat refine Xb ?_
  exact zu (zh _ _) hk
 have c2:decide ((i:Int)<(s.length:Int))=true:=by simp;omega
 have w1:=KL i;have hgk:(ba s).get! i=s[i]:=ZJ hlt;have hst:=GA s i hlt;have hcut:(s.drop i).take (i+1-i)=[s[i]]:=by
  rw[show i+1-i=1 by omega,List.drop_eq_getElem_cons hlt];rfl
 generalize hc:s[i]=c at *;have g1:=Zw c 10 10 rfl;have g2:=Zw c 34 34 rfl;have g3:=Zw c 92 92 rfl;have g4:=Ua c 32 32 rfl;have g5:=K7 c 126 126 rfl;have hql:=D4 c;by_cases h34:c=34
 ·have d2:(c==34)=true:=by simp[h34]
  have hq:qB c=[92,34]:=by subst h34;rfl
  rw[hq] at hst;simp only[go_sem,c2,zf,hgk,w1,g2,d2,Ie,zL];repeat refine Xb ?_
  refine⟨k-1,_,by omega,?_,i+1,b++[92,34],by omega,by rw[hst,hb];rfl,by simp;omega,rfl⟩;exact qv
 have d2:(c==34)=false:=by simp[h34]
 by_cases h92:c=92
 ·have d3:(c==92)=true:=by simp[h92]
  have hq:qB c=[92,92]:=by subst h92;rfl
  rw[hq] at hst;simp only[go_sem,c2,zf,hgk,w1,g2,d2,g3,d3,A3,zL];repeat refine Xb ?_
  refine⟨k-1,_,by omega,?_,i+1,b++[92,92],by omega,by rw[hst,hb];rfl,by simp;omega,rfl⟩;exact qv
 have d3:(c==92)=false:=by simp[h92]
 by_cases h10:c=10
 ·have d1:(c==10)=true:=by simp[h10]
  have hq:qB c=[92,110]:=by subst h10;rfl
  rw[hq] at hst;simp only[go_sem,c2,zf,hgk,w1,g1,d1,g2,d2,g3,d3,AK,zL];repeat refine Xb ?_
  refine⟨k-1,_,by omega,?_,i+1,b++[92,110],by omega,by rw[hst,hb];rfl,by simp;omega,rfl⟩;exact qv
 have d1:(c==10)=false:=by simp[h10]
 have hpl:YB c=(decide (32≤c)&&decide (c≤126)):=by
  unfold YB;have n2:(c != 34)=true:=by simp[h34]
  have n3:(c != 92)=true:=by simp[h92]
  rw[n2,n3,Bool.and_true,Bool.and_true]
 by_cases hp:YB c=true
 ·have hq:qB c=[c]:=by unfold qB;rw[if_pos hp]
  rw[hq] at hst;rw[hpl,Y4] at hp;obtain⟨p1,p2⟩:=hp;simp only[go_sem,c2,zf,hgk,w1,g1,d1,g2,d2,g3,d3,ge_iff_le,g4,g5,p1,p2,qD,hcut,zL];repeat refine Xb ?_
  refine⟨k-1,_,by omega,?_,i+1,b++[c],by omega,by rw[hst,hb];rfl,by simp;omega,rfl⟩;exact qv
 have hq:qB c=[92,120,YL (c >>> 4),YL (c &&& 15)]:=by
  unfold qB;rw[if_neg hp,if_neg h10,if_neg (by rintro (h | h) <;> contradiction)]
 rw[hq] at hst;have q4:=(Wk c).1;have q15:=(Wk c).2.1;have r4:=xm q4;have r15:=xm q15;obtain⟨z1,z2⟩:=fu c;have w4:IntKind.i64.wrap (((c >>> 4).toNat:Int)+1)=(((c >>> 4).toNat+1:Nat):Int):=by rw[IntWalk.i64_in _ (by omega)];rfl
 have w5:IntKind.i64.wrap (((c &&& 15).toNat:Int)+1)=(((c &&& 15).toNat+1:Nat):Int):=by rw[IntWalk.i64_in _ (by omega)];rfl
 have hh:hexL.length=16:=rfl;have hfin:∀ (x:Tx),b++x=b++x:=fun x=>rfl;cases p1:decide (32≤c) with
 | false =>
  simp only[go_sem,c2,zf,hgk,w1,g1,d1,g2,d2,g3,d3,ge_iff_le,g4,g5,p1,Ix,C8,z1,z2];refine⟨by omega,?_⟩;refine zy [] mixed rfl ?_;simp only[go_sem,w4,w5,zf,hh,qD,r4,r15,eX,zL,xaA,xcA,xnA,w1];repeat refine Xb ?_
  refine⟨k-1,_,by omega,?_,i+1,b++[92,120,YL (c >>> 4),YL (c &&& 15)],by omega,by rw[hst,hb];rfl,by simp;omega,rfl⟩;exact qv
 | true =>
  have p2:decide (c≤126)=false:=by
   rw[hpl,p1,Bool.true_and] at hp;simpa using hp
  simp only[go_sem,c2,zf,hgk,w1,g1,d1,g2,d2,g3,d3,ge_iff_le,g4,g5,p1,p2,Ix,C8,z1,z2];refine⟨by omega,?_⟩;refine zy [] mixed rfl ?_;simp only[go_sem,w4,w5,zf,hh,qD,r4,r15,eX,zL,xaA,xcA,xnA,w1];repeat refine Xb ?_
  refine⟨k-1,_,by omega,?_,i+1,b++[92,120,YL (c >>> 4),YL (c &&& 15)],by omega,by rw[hst,hb];rfl,by simp;omega,rfl⟩;exact qv
end Go.Proofs
