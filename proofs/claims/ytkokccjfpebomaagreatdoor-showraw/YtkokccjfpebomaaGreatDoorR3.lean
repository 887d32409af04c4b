/- The document's ty, decl, Program. -/
import Derived.Test.YtkokccjfpebomaaGreatDoorW95
set_option linter.all false
set_option maxHeartbeats 4000000
set_option maxRecDepth 8000
namespace Go.AL
def un:Tx→List Tx→Tx
 | s,[]=>s
 | s,m::r=>un (s++32::m) r
theorem LX(x:Tx):∀ (l:List Tx) (y:Tx),un (x++y) l=x++un y l
 | [],y=>rfl
 | m::r,y=>by
  show un (x++y++32::m) r=x++un (y++32::m) r;rw[xaA,LX x r]
theorem tc(b:Tx):∀ (l:List Tx) (a:Tx),qO (a::(l++[b]))=un a l++32::b
 | [],a=>rfl
 | m::r,a=>by
  show a++32::qO (m::(r++[b]))=un (a++32::m) r++32::b;have h:un (a++32::m) r=a++32::un m r:=by
   rw[LX a r (32::m)];exact congrArg (a ++ ·) (LX [32] r m)
  rw[tc b r m,h];simp only[xaA,xcA]
theorem u9:∀ (l:List Tx) (w:Tx),w.length≤(un w l).length
 | [],w=>Nat.le_refl _
 | k::r,w=>by
  have h:=u9 r (w++32::k);rw[xlA] at h;show _≤(un _ r).length;omega
end Go.AL
namespace Go.Proofs
open Go Go.AL Tryz
theorem VL:(⟨#[100,111,32]⟩:ByteArray)=ba [100,111,32]:=rfl
theorem VJ:(⟨#[116,121,112,101,32]⟩:ByteArray)=ba [116,121,112,101,32]:=rfl
theorem VK:(⟨#[32,111,102,32]⟩:ByteArray)=ba [32,111,102,32]:=rfl
theorem VI:(⟨#[32,44,32]⟩:ByteArray)=ba [32,44,32]:=rfl
def RyC(d:Nat):Prop:=∀ (n:Nd) (r:Tx),Dep d n→Fit n→qr d n=r→r.length≤140737488355328→∀ (K:SV→St→Prop) (st:St),K (.sc (.string (ba r))) st→ACalls prog 50 [zq n] K st
theorem RyC.agg{d:Nat}(hT:RyC d){n:Nd}{r:Tx}(hd:Dep d n)(hf:Fit n)(hr:qr d n=r)(hl:r.length≤140737488355328){K:SV→St→Prop}{st:St}(hk:K (.sc (.string (ba r))) st) :
  ACalls prog 50 [.agg [.sc (.int .i64 n.kind),.sc (.string (ba n.text)),.sc (.int .i64 n.num),.sc (.int .i64 n.pos),.slice .imm 1 (n.names.map qc),.slice .imm 6 (n.kids.map zq)]] K st:=by
 have:=hT n r hd hf hr hl K st hk;rw[qG] at this;exact this
theorem P9{d:Nat}(hT:RyC d):RyC (d+1):=by
 intro n r hd hf hr hl K st hk;refine zd [] func50 rfl results50 ntmps50 ?_;have hn:=hf.kids.2.1;have hr:XQ (qr d) n.text n.kids=r:=hr;simp -implicitDefEqProofs (maxSteps:=3000000) only[go_sem,za,xlM];refine zx [] (fun k env s=>∃ (i:Nat) (v:Tx),k+i=n.kids.length∧XQ (qr d) v (n.kids.drop i)=r∧env=[.any,.ref [.sc (.int .i64 n.kind),.sc (.string (ba n.text)),.sc (.int .i64 n.num),.sc (.int .i64 n.pos),.slice .imm 1 (n.names.map qc),.slice .imm 6 (n.kids.map zq)],.any,.sc (.string (ba v)),.sc (.int .i64 i),.any,.any,.any,.any,.any,.any,.any,.any,.any,.any,.any,.any,.any,.any,.any,.any,.any,.any,.any,.any,.any,.any,.any,.any,.any,.any,.any,.any,.any,.any,.any,.any]∧s=st) (n:=n.kids.length) ?_ ⟨0,n.text,by omega,hr,rfl,rfl⟩ ?_
 ·exact qu
 rintro k env s ⟨i,v,hi,hv,rfl,rfl⟩;by_cases hlt:i<n.kids.length
 ·have c2:decide ((i:Int)<(n.kids.length:Int))=true:=by simp;omega
  have w1:IntKind.i64.wrap ((i:Int)+1)=((i+1:Nat):Int):=by rw[IntWalk.i64_in _ (by omega)];rfl
  have g1:=q7 hlt;rw[List.drop_eq_getElem_cons hlt] at hv;have hv:XQ (qr d) (if 0<n.kids[i].kids.length then qO [v,[40],qr d n.kids[i],[41]] else qO [v,qr d n.kids[i]]) (n.kids.drop (i+1))=r:=hv;have hle:=E7 (qr d) (n.kids.drop (i+1)) (if 0<n.kids[i].kids.length then qO [v,[40],qr d n.kids[i],[41]] else qO [v,qr d n.kids[i]]);rw[hv] at hle;have hd1:=hd.kids _ (List.getElem_mem hlt);have hf1:=hf.kids.1 _ (List.getElem_mem hlt);by_cases c:0<n.kids[i].kids.length
  ·have b1:decide (0<(n.kids[i].kids.length:Int))=true:=by rw[decide_eq_true_eq];omega
   rw[if_pos c] at hv hle;rw[ZU] at hle;try simp only[xlC,xlN] at hle
   simp -implicitDefEqProofs (maxSteps:=3000000) only[go_sem,c2,w1,xlM,g1,za,gt_iff_lt,b1];repeat refine Xs ?_
   refine hT.agg hd1 hf1 rfl (by omega) ?_;simp -implicitDefEqProofs (maxSteps:=3000000) only[go_sem,c2,w1,xlM,g1,za,gt_iff_lt,b1,ZY,VL,VJ,VK,VI,zP];repeat refine Xs ?_
   refine⟨k-1,_,by omega,?_,i+1,qO [v,[40],qr d n.kids[i],[41]],by omega,hv,rfl⟩;simp only[qO,xaA,xcA,xnA];exact qu
  ·have b1:decide (0<(n.kids[i].kids.length:Int))=false:=by rw[decide_eq_false_iff_not];omega
   rw[if_neg c] at hv hle;rw[Zf] at hle;try simp only[xlC,xlN] at hle
   simp -implicitDefEqProofs (maxSteps:=3000000) only[go_sem,c2,w1,xlM,g1,za,gt_iff_lt,b1];repeat refine Xs ?_
   refine hT.agg hd1 hf1 rfl (by omega) ?_;simp -implicitDefEqProofs (maxSteps:=3000000) only[go_sem,c2,w1,xlM,g1,za,gt_iff_lt,b1,ZY,VL,VJ,VK,VI,zP];repeat refine Xs ?_
   refine⟨k-1,_,by omega,?_,i+1,qO [v,qr d n.kids[i]],by omega,hv,rfl⟩;simp only[qO,xaA,xcA,xnA];exact qu
 ·have c2:decide ((i:Int)<(n.kids.length:Int))=false:=by simp;omega
  have hv:v=r:=by rw[←hv,List.drop_of_length_le (by omega)];rfl
  subst hv;simp -implicitDefEqProofs (maxSteps:=3000000) only[go_sem,c2,xlM,za];exact zy (zi _ _) hk
theorem wM:∀ d,RyC d
 | 0=>fun n r hd=>by obtain⟨k,hk⟩:=hd.pos;cases hk
 | d+1=>P9 (wM d)
theorem mX{d:Nat}{n:Nd}(hkd:n.kind=28)(h0:0<n.kids.length)(hg:∀ c∈n.kids,GN c)(hd:Dep (d+1) n)(hf:Fit n){r:Tx}(hr:Qm (zo d) [108,101,116] n 6=r)(hl:r.length≤140737488355328){K:SV→St→Prop}{st:St}(hk:K (.sc (.string (ba r))) st):ACalls prog 31 [zq n] K st:=by
 refine zd [] func31 rfl results31 ntmps31 ?_;have e28:(n.kind==28)=true:=by simp[hkd]
 have g0:=qH h0;have hg0:GN (kid n 0):=by unfold kid;rw[xgE,List.getElem?_eq_getElem h0];exact hg _ (List.getElem_mem h0)
 have hl1:=hl;unfold Qm at hr;rw[←hr,ZU] at hl1;simp only[xlC,xlN] at hl1;simp -implicitDefEqProofs (maxSteps:=3000000) only[go_sem,za,e28];refine zC [] mixed rfl ?_;try simp only[go_sem,za,xlM,Int.reduceToNat,g0,ZY,VL,VJ,VK,VI,zP]
 repeat refine Xs ?_
 rw[zt];refine⟨.sc (.string (ba (zj (zo d) (kid n 0) 6 6))),?_,?_⟩
 ·simp only[go_sem];refine Ep (WM d) hg0 (qf hd h0) (qe hf h0) rfl (by omega) ?_;exact zJ
 try simp only[go_sem,za,xlM,Int.reduceToNat,g0,ZY,VL,VJ,VK,VI,zP]
 repeat refine Xs ?_
 exact zy (zi _ _) (X6 (by rw[←hr];simp only[qO,xaA,xcA,xnA,xaN]) hk)
theorem pN{d:Nat}{n:Nd}(hkd:n.kind=29)(h0:0<n.kids.length)(hg:∀ c∈n.kids,GN c)(hd:Dep (d+1) n)(hf:Fit n){r:Tx}(hr:Qm (zo d) [108,101,116,32,114,101,99] n 6=r)(hl:r.length≤140737488355328){K:SV→St→Prop}{st:St}(hk:K (.sc (.string (ba r))) st):ACalls prog 31 [zq n] K st:=by
 refine zd [] func31 rfl results31 ntmps31 ?_;have e29:(n.kind==29)=true:=by simp[hkd]
 have e28:(n.kind==28)=false:=by simp[hkd]
 have g0:=qH h0;have hg0:GN (kid n 0):=by unfold kid;rw[xgE,List.getElem?_eq_getElem h0];exact hg _ (List.getElem_mem h0)
 have hl1:=hl;unfold Qm at hr;rw[←hr,ZU] at hl1;simp only[xlC,xlN] at hl1;simp -implicitDefEqProofs (maxSteps:=3000000) only[go_sem,za,e28,e29];refine zC [] mixed rfl ?_;try simp only[go_sem,za,xlM,Int.reduceToNat,g0,ZY,VL,VJ,VK,VI,zP]
 repeat refine Xs ?_
 rw[zt];refine⟨.sc (.string (ba (zj (zo d) (kid n 0) 6 6))),?_,?_⟩
 ·simp only[go_sem];refine Ep (WM d) hg0 (qf hd h0) (qe hf h0) rfl (by omega) ?_;exact zJ
 try simp only[go_sem,za,xlM,Int.reduceToNat,g0,ZY,VL,VJ,VK,VI,zP]
 repeat refine Xs ?_
 exact zy (zi _ _) (X6 (by rw[←hr];simp only[qO,xaA,xcA,xnA,xaN]) hk)
theorem pz(T:Nd→Tx)(i:Nat)(s:Tx)(k:Nd)(r:List Nd):Wj T i s (k::r)=Wj T (i+1) (s++((if i=0 then [32,111,102,32] else [32,44,32])++T k)) r:=by
 by_cases h:i=0
 ·simp only[Wj,qO,h,if_true,xaA,xcA,xnA]
 ·simp only[Wj,qO,h,if_false,xaA,xcA,xnA]
theorem bR(d:Nat)(i:Nat)(v:Tx)(k:Nd)(r:List Nd):YQ d i (if i=0 then v++[32,61] else v) (k::r)=YQ d (i+1) (v++((if i=0 then [32,61,32] else [32,124,32])++K5 d k)) r:=by
 by_cases h:i=0
 ·simp only[YQ,qO,h,if_true,Nat.lt_irrefl,if_false,xaA,xcA,xnA]
 ·simp only[YQ,qO,h,if_false,Nat.pos_of_ne_zero h,if_true,xaA,xcA,xnA]
theorem fp{l:List Tx}{i:Nat}(h:i<l.length):(l.map qc).getD i .any = .sc (.string (ba l[i])):=by
 rw[xgE,List.getElem?_map,List.getElem?_eq_getElem h];rfl
theorem mG{d:Nat}{n:Nd}(hkd:n.kind=25)(h0:0<n.kids.length)(hd:Dep (d+1) n)(hf:Fit n){r:Tx}(hr:YQ d 0 (qO (([[116,121,112,101],n.text]++n.names)++[[61]])) n.kids=r)(hl:r.length≤140737488355328){K:SV→St→Prop}{st:St}(hk:K (.sc (.string (ba r))) st):ACalls prog 31 [zq n] K st:=by
 refine zd [] func31 rfl results31 ntmps31 ?_;have e28:(n.kind==28)=false:=by simp[hkd]
 have e29:(n.kind==29)=false:=by simp[hkd]
 have hn:=hf.kids.2.1;have hns:=hf.kids.2.2.1;have hw:qO (([[116,121,112,101],n.text]++n.names)++[[61]])=un (116::121::112::101::32::n.text) n.names++[32,61]:=tc [61] (n.text::n.names) [116,121,112,101];rw[hw] at hr;have hle0:=K2 d n.kids 0 (un (116::121::112::101::32::n.text) n.names++[32,61]);rw[hr,xlA] at hle0;have hle1:=u9 n.names (116::121::112::101::32::n.text);simp only[xlC] at hle1;generalize hz:un (116::121::112::101::32::n.text) n.names=z at *;simp -implicitDefEqProofs (maxSteps:=3000000) only[go_sem,za,xlM,e28,e29,ZY,VL,VJ,VK,VI,zP,xcA,xnA];repeat refine Xs ?_
 refine zx [] (fun k env s=>∃ (i:Nat) (v:Tx),k+i=n.names.length∧un v (n.names.drop i)=z∧env=[.any,.ref [.sc (.int .i64 n.kind),.sc (.string (ba n.text)),.sc (.int .i64 n.num),.sc (.int .i64 n.pos),.slice .imm 1 (n.names.map qc),.slice .imm 6 (n.kids.map zq)],.any,.sc (.string (ba v)),.sc (.int .i64 i),.any,.any,.any,.any,.any,.any,.any,.any,.any,.any,.any,.any,.any,.any,.any,.any,.any,.any,.any,.any,.any,.any,.any,.any,.any,.any,.any,.any,.any,.any,.any,.any,.any,.any,.any,.any,.any,.any,.any,.any,.any,.any,.any,.any,.any,.any,.any,.any,.any,.any,.any,.any,.any,.any,.any,.any,.any,.any,.any,.any,.any,.any,.any,.any,.any,.any,.any,.any,.any,.any,.any,.any,.any,.any,.any,.any,.any,.any,.any,.any,.any,.any,.any,.any,.any,.any,.any,.any,.any,.any,.any,.any,.any,.any,.any,.any,.any]∧s=st) (n:=n.names.length) ?_ ⟨0,_,by omega,hz,rfl,rfl⟩ ?_
 ·exact qu
 rintro k env s ⟨i,v,hi,hv,rfl,rfl⟩;by_cases hlt:i<n.names.length
 ·have c2:decide ((i:Int)<(n.names.length:Int))=true:=by simp;omega
  have w1:IntKind.i64.wrap ((i:Int)+1)=((i+1:Nat):Int):=by rw[IntWalk.i64_in _ (by omega)];rfl
  have g1:=fp hlt;rw[List.drop_eq_getElem_cons hlt] at hv;have hv:un (v++32::n.names[i]) (n.names.drop (i+1))=z:=hv;have hle:=u9 (n.names.drop (i+1)) (v++32::n.names[i]);rw[hv,xlA] at hle;simp only[xlC] at hle;simp -implicitDefEqProofs (maxSteps:=3000000) only[go_sem,c2,w1,xlM,g1,za,ZY,VL,VJ,VK,VI,zP];repeat refine Xs ?_
  refine⟨k-1,_,by omega,?_,i+1,v++32::n.names[i],by omega,hv,rfl⟩;try simp only[xaA,xcA,xnA]
  exact qu
 have c2:decide ((i:Int)<(n.names.length:Int))=false:=by simp;omega
 have hv:v=z:=by rw[←hv,List.drop_of_length_le (by omega)];rfl
 subst hv;simp -implicitDefEqProofs (maxSteps:=3000000) only[go_sem,c2,xlM,za];clear hi hlt c2;refine zx [] (fun k env s'=>∃ (i:Nat) (u:Tx),k+i=n.kids.length∧YQ d i (if i=0 then u++[32,61] else u) (n.kids.drop i)=r∧(n.kids.length≤i→0<i)∧env=[.any,.ref [.sc (.int .i64 n.kind),.sc (.string (ba n.text)),.sc (.int .i64 n.num),.sc (.int .i64 n.pos),.slice .imm 1 (n.names.map qc),.slice .imm 6 (n.kids.map zq)],.any,.sc (.string (ba u)),.any,.sc (.int .i64 i),.any,.any,.any,.any,.any,.any,.any,.any,.any,.any,.any,.any,.any,.any,.any,.any,.any,.any,.any,.any,.any,.any,.any,.any,.any,.any,.any,.any,.any,.any,.any,.any,.any,.any,.any,.any,.any,.any,.any,.any,.any,.any,.any,.any,.any,.any,.any,.any,.any,.any,.any,.any,.any,.any,.any,.any,.any,.any,.any,.any,.any,.any,.any,.any,.any,.any,.any,.any,.any,.any,.any,.any,.any,.any,.any,.any,.any,.any,.any,.any,.any,.any,.any,.any,.any,.any,.any,.any,.any,.any,.any,.any,.any,.any,.any,.any]∧s'=s) (n:=n.kids.length) ?_ ⟨0,v,by omega,hr,fun h=>by omega,rfl,rfl⟩ ?_
 ·exact qu
 rintro k env s' ⟨i,u,hi,hv,hpos,rfl,rfl⟩;by_cases hlt:i<n.kids.length
 rotate_left
 ·have c2:decide ((i:Int)<(n.kids.length:Int))=false:=by simp;omega
  have hv:u=r:=by
   rw[List.drop_of_length_le (by omega),if_neg (by have:=hpos (by omega);omega)] at hv;exact hv
  subst hv;simp -implicitDefEqProofs (maxSteps:=3000000) only[go_sem,c2,xlM,za];exact zy (zi _ _) hk
 have c2:decide ((i:Int)<(n.kids.length:Int))=true:=by simp;omega
 have w1:IntKind.i64.wrap ((i:Int)+1)=((i+1:Nat):Int):=by rw[IntWalk.i64_in _ (by omega)];rfl
 have g1:=q7 hlt;rw[List.drop_eq_getElem_cons hlt,bR] at hv;have hle:=K2 d (n.kids.drop (i+1)) (i+1) (u++((if i=0 then [32,61,32] else [32,124,32])++K5 d n.kids[i]));rw[hv,xlA,xlA] at hle;have hd1:Dep d n.kids[i]:=hd.kids _ (List.getElem_mem hlt);have hf1:=hf.kids.1 _ (List.getElem_mem hlt);have hn1:=hf1.kids.2.1;generalize hP:u++(if i=0 then [32,61,32] else [32,124,32])=P;have hPl:P.length=u.length+3:=by rw[←hP,xlA];split <;> rfl
 have hx3:(if i=0 then ([32,61,32]:Tx) else [32,124,32]).length=3:=by split <;> rfl
 have hde:Wj (qr d) 0 n.kids[i].text n.kids[i].kids=K5 d n.kids[i]:=rfl;have hle2:=HQ (qr d) n.kids[i].kids 0 n.kids[i].text;rw[hde] at hle2;rw[←xaA,hP] at hv;generalize hDD:K5 d n.kids[i]=DD at *;have inner:∀ (W:Prop),W→W:=fun _ h=>h;by_cases ci:i=0
 ·have b1:((i:Int)==0)=true:=by simp[ci]
  rw[if_pos ci] at hP;simp -implicitDefEqProofs (maxSteps:=3000000) only[go_sem,c2,b1,g1,xlM,za,ZY,VL,VJ,VK,VI,zP,hP];repeat refine Xs ?_
  refine zx [] (fun q env s''=>∃ (j:Nat) (y:Tx),q+j=n.kids[i].kids.length∧Wj (qr d) j y (n.kids[i].kids.drop j)=DD∧env=[.any,.ref [.sc (.int .i64 n.kind),.sc (.string (ba n.text)),.sc (.int .i64 n.num),.sc (.int .i64 n.pos),.slice .imm 1 (n.names.map qc),.slice .imm 6 (n.kids.map zq)],.any,.sc (.string (ba (P++y))),.any,.sc (.int .i64 i),.sc (.int .i64 j),.any,.any,.any,.any,.any,.any,.any,.any,.any,.any,.any,.any,.any,.any,.any,.any,.any,.any,.any,.any,.any,.any,.any,.any,.any,.any,.any,.any,.any,.any,.any,.any,.any,.any,.any,.any,.any,.any,.any,.any,.any,.any,.any,.any,.any,.any,.any,.any,.any,.any,.any,.any,.any,.any,.any,.any,.any,.any,.any,.any,.any,.any,.any,.any,.any,.any,.any,.any,.any,.any,.any,.any,.any,.any,.any,.any,.any,.any,.any,.any,.any,.any,.any,.any,.any,.any,.any,.any,.any,.any,.any,.any,.any,.any,.any]∧s''=s') (n:=n.kids[i].kids.length) ?_ ⟨0,n.kids[i].text,by omega,hde,rfl,rfl⟩ ?_
  ·exact qu
  rintro q env s'' ⟨j,y,hj,hy,rfl,rfl⟩;by_cases hlj:j<n.kids[i].kids.length
  rotate_left
  ·have c3:decide ((j:Int)<(n.kids[i].kids.length:Int))=false:=by simp;omega
   have hy:y=DD:=by rw[←hy,List.drop_of_length_le (by omega)];rfl
   subst hy;simp -implicitDefEqProofs (maxSteps:=3000000) only[go_sem,c3,g1,w1,xlM,za];repeat refine Xs ?_
   refine⟨k-1,_,by omega,?_,i+1,P++y,by omega,by rw[if_neg (by omega)];exact hv,fun _=>by omega,rfl⟩;exact qu
  have c3:decide ((j:Int)<(n.kids[i].kids.length:Int))=true:=by simp;omega
  have w3:IntKind.i64.wrap ((j:Int)+1)=((j+1:Nat):Int):=by rw[IntWalk.i64_in _ (by omega)];rfl
  have g3:=q7 hlj;rw[List.drop_eq_getElem_cons hlj,pz] at hy;have hle3:=HQ (qr d) (n.kids[i].kids.drop (j+1)) (j+1) (y++((if j=0 then [32,111,102,32] else [32,44,32])++qr d n.kids[i].kids[j]));rw[hy,xlA,xlA] at hle3;have hd3:=(hd1.mono (Nat.le_succ d)).kids _ (List.getElem_mem hlj);have hf3:=hf1.kids.1 _ (List.getElem_mem hlj);by_cases cj:j=0
  ·have b3:((j:Int)==0)=true:=by simp[cj]
   rw[if_pos cj] at hy hle3;simp only[xlC,xlN] at hle3;simp -implicitDefEqProofs (maxSteps:=3000000) only[go_sem,c3,b3,g1,g3,w3,xlM,za,ZY,VL,VJ,VK,VI,zP];repeat refine Xs ?_
   refine (wM d).agg hd3 hf3 rfl (by omega) ?_;simp -implicitDefEqProofs (maxSteps:=3000000) only[go_sem,c3,b3,g1,g3,w3,xlM,za,ZY,VL,VJ,VK,VI,zP];repeat refine Xs ?_
   refine⟨q-1,_,by omega,?_,j+1,y++([32,111,102,32]++qr d n.kids[i].kids[j]),by omega,hy,rfl⟩;try simp only[xaA,xcA,xnA]
   exact qu
  ·have b3:((j:Int)==0)=false:=by simp;omega
   rw[if_neg cj] at hy hle3;simp only[xlC,xlN] at hle3;simp -implicitDefEqProofs (maxSteps:=3000000) only[go_sem,c3,b3,g1,g3,w3,xlM,za,ZY,VL,VJ,VK,VI,zP];repeat refine Xs ?_
   refine (wM d).agg hd3 hf3 rfl (by omega) ?_;simp -implicitDefEqProofs (maxSteps:=3000000) only[go_sem,c3,b3,g1,g3,w3,xlM,za,ZY,VL,VJ,VK,VI,zP];repeat refine Xs ?_
   refine⟨q-1,_,by omega,?_,j+1,y++([32,44,32]++qr d n.kids[i].kids[j]),by omega,hy,rfl⟩;try simp only[xaA,xcA,xnA]
   exact qu
 ·have b1:((i:Int)==0)=false:=by simp;omega
  rw[if_neg ci] at hP;simp -implicitDefEqProofs (maxSteps:=3000000) only[go_sem,c2,b1,g1,xlM,za,ZY,VL,VJ,VK,VI,zP,hP];repeat refine Xs ?_
  refine zx [] (fun q env s''=>∃ (j:Nat) (y:Tx),q+j=n.kids[i].kids.length∧Wj (qr d) j y (n.kids[i].kids.drop j)=DD∧env=[.any,.ref [.sc (.int .i64 n.kind),.sc (.string (ba n.text)),.sc (.int .i64 n.num),.sc (.int .i64 n.pos),.slice .imm 1 (n.names.map qc),.slice .imm 6 (n.kids.map zq)],.any,.sc (.string (ba (P++y))),.any,.sc (.int .i64 i),.sc (.int .i64 j),.any,.any,.any,.any,.any,.any,.any,.any,.any,.any,.any,.any,.any,.any,.any,.any,.any,.any,.any,.any,.any,.any,.any,.any,.any,.any,.any,.any,.any,.any,.any,.any,.any,.any,.any,.any,.any,.any,.any,.any,.any,.any,.any,.any,.any,.any,.any,.any,.any,.any,.any,.any,.any,.any,.any,.any,.any,.any,.any,.any,.any,.any,.any,.any,.any,.any,.any,.any,.any,.any,.any,.any,.any,.any,.any,.any,.any,.any,.any,.any,.any,.any,.any,.any,.any,.any,.any,.any,.any,.any,.any,.any,.any,.any,.any]∧s''=s') (n:=n.kids[i].kids.length) ?_ ⟨0,n.kids[i].text,by omega,hde,rfl,rfl⟩ ?_
  ·exact qu
  rintro q env s'' ⟨j,y,hj,hy,rfl,rfl⟩;by_cases hlj:j<n.kids[i].kids.length
  rotate_left
  ·have c3:decide ((j:Int)<(n.kids[i].kids.length:Int))=false:=by simp;omega
   have hy:y=DD:=by rw[←hy,List.drop_of_length_le (by omega)];rfl
   subst hy;simp -implicitDefEqProofs (maxSteps:=3000000) only[go_sem,c3,g1,w1,xlM,za];repeat refine Xs ?_
   refine⟨k-1,_,by omega,?_,i+1,P++y,by omega,by rw[if_neg (by omega)];exact hv,fun _=>by omega,rfl⟩;exact qu
  have c3:decide ((j:Int)<(n.kids[i].kids.length:Int))=true:=by simp;omega
  have w3:IntKind.i64.wrap ((j:Int)+1)=((j+1:Nat):Int):=by rw[IntWalk.i64_in _ (by omega)];rfl
  have g3:=q7 hlj;rw[List.drop_eq_getElem_cons hlj,pz] at hy;have hle3:=HQ (qr d) (n.kids[i].kids.drop (j+1)) (j+1) (y++((if j=0 then [32,111,102,32] else [32,44,32])++qr d n.kids[i].kids[j]));rw[hy,xlA,xlA] at hle3;have hd3:=(hd1.mono (Nat.le_succ d)).kids _ (List.getElem_mem hlj);have hf3:=hf1.kids.1 _ (List.getElem_mem hlj);by_cases cj:j=0
  ·have b3:((j:Int)==0)=true:=by simp[cj]
   rw[if_pos cj] at hy hle3;simp only[xlC,xlN] at hle3;simp -implicitDefEqProofs (maxSteps:=3000000) only[go_sem,c3,b3,g1,g3,w3,xlM,za,ZY,VL,VJ,VK,VI,zP];repeat refine Xs ?_
   refine (wM d).agg hd3 hf3 rfl (by omega) ?_;simp -implicitDefEqProofs (maxSteps:=3000000) only[go_sem,c3,b3,g1,g3,w3,xlM,za,ZY,VL,VJ,VK,VI,zP];repeat refine Xs ?_
   refine⟨q-1,_,by omega,?_,j+1,y++([32,111,102,32]++qr d n.kids[i].kids[j]),by omega,hy,rfl⟩;try simp only[xaA,xcA,xnA]
   exact qu
  ·have b3:((j:Int)==0)=false:=by simp;omega
   rw[if_neg cj] at hy hle3;simp only[xlC,xlN] at hle3;simp -implicitDefEqProofs (maxSteps:=3000000) only[go_sem,c3,b3,g1,g3,w3,xlM,za,ZY,VL,VJ,VK,VI,zP];repeat refine Xs ?_
   refine (wM d).agg hd3 hf3 rfl (by omega) ?_;simp -implicitDefEqProofs (maxSteps:=3000000) only[go_sem,c3,b3,g1,g3,w3,xlM,za,ZY,VL,VJ,VK,VI,zP];repeat refine Xs ?_
   refine⟨q-1,_,by omega,?_,j+1,y++([32,44,32]++qr d n.kids[i].kids[j]),by omega,hy,rfl⟩;try simp only[xaA,xcA,xnA]
   exact qu
theorem ls{d:Nat}{n:Nd}(hg:GD n)(hr0:Nr n)(hd:Dep (d+1) n)(hf:Fit n){r:Tx}(hr:Z7 d n=r)(hl:r.length≤140737488355328){K:SV→St→Prop}{st:St}(hk:K (.sc (.string (ba r))) st):ACalls prog 31 [zq n] K st:=by
 unfold Z7 at hr;rcases hg with⟨hkd,h0,hg⟩ | ⟨hkd,h0⟩
 ·have hgn:∀ c∈n.kids,GN c:=fun c hc=>⟨hg c hc,hr0.kids c hc⟩;have hm:qg n=true:=by unfold qg;rcases hkd with h | h <;> simp[h] <;> omega
  rcases hkd with hkd | hkd
  ·rw[if_pos ⟨hkd,hm⟩] at hr;exact mX hkd h0 hgn hd hf hr hl hk
  ·rw[if_neg (by rw[hkd];simp),if_pos ⟨hkd,hm⟩] at hr;exact pN hkd h0 hgn hd hf hr hl hk
 ·rw[if_neg (by rw[hkd];simp),if_neg (by rw[hkd];simp),if_neg (by rw[hkd];simp)] at hr;exact mG hkd h0 hd hf hr hl hk
theorem ia{d:Nat}{n:Nd}(hg:GD n)(hr0:Nr n)(hd:Dep (d+1) n)(hf:Fit n){r:Tx}(hr:Z7 d n=r)(hl:r.length≤140737488355328){K:SV→St→Prop}{st:St}(hk:K (.sc (.string (ba r))) st) :
  ACalls prog 31 [.agg [.sc (.int .i64 n.kind),.sc (.string (ba n.text)),.sc (.int .i64 n.num),.sc (.int .i64 n.pos),.slice .imm 1 (n.names.map qc),.slice .imm 6 (n.kids.map zq)]] K st:=by
 have:=ls hg hr0 hd hf hr hl hk;rw[qG] at this;exact this
theorem FM(d:Nat):∀ (l:List Nd) (w:Tx),w.length≤(XI d w l).length
 | [],w=>Nat.le_refl _
 | k::r,w=>by
  have h:=FM d r (w++qO [Z7 d k,[59,32]]);rw[xlA] at h;show _≤(XI d _ r).length;omega
theorem oT{d:Nat}{n:Nd}(hg:GP n)(hr0:Nr n)(hd:Dep (d+2) n)(hf:Fit n){r:Tx}(hr:qR (d+1) n=r)(hl:r.length≤140737488355328){K:SV→St→Prop}{st:St}(hk:K (.sc (.string (ba r))) st):ACalls prog 16 [zq n] K st:=by
 refine zd [] func16 rfl results16 ntmps16 ?_;obtain⟨ds,e,hk1,hgd,hge⟩:=hg;have hn:=hf.kids.2.1;have hln:n.kids.length=ds.length+1:=by rw[hk1];simp
 unfold qR at hr;rw[hk1,List.dropLast_concat,List.getLastD_concat] at hr;have hl1:=hl;rw[←hr,xlA,Zf] at hl1;simp only[xlC,xlN] at hl1;have hlt1:ds.length<n.kids.length:=by omega
 have ge:(n.kids.map zq).getD ds.length .any=zq e:=by rw[q7 hlt1];congr 1;simp[hk1]
 have hem:e∈n.kids:=by rw[hk1];simp
 have hdm:∀ c∈ds,c∈n.kids:=fun c hc=>by rw[hk1];simp[hc]
 have w0:IntKind.i64.wrap ((n.kids.length:Int)-1)=(ds.length:Int):=by rw[Je (by omega)];omega
 generalize hz:XI (d+1) [] ds=z at *;simp -implicitDefEqProofs (maxSteps:=3000000) only[go_sem,za,xlM,lS];refine zx [] (fun k env s=>∃ (i:Nat) (v:Tx),k+i=ds.length∧XI (d+1) v (ds.drop i)=z∧env=[.any,.ref [.sc (.int .i64 n.kind),.sc (.string (ba n.text)),.sc (.int .i64 n.num),.sc (.int .i64 n.pos),.slice .imm 1 (n.names.map qc),.slice .imm 6 (n.kids.map zq)],.any,.sc (.string (ba v)),.sc (.int .i64 i),.any,.any,.any,.any,.any,.any,.any,.any,.any,.any,.any,.any,.any,.any,.any,.any,.any,.any,.any,.any,.any,.any,.any,.any,.any,.any,.any,.any,.any]∧s=st) (n:=ds.length) ?_ ⟨0,[],by omega,hz,rfl,rfl⟩ ?_
 ·exact qu
 rintro k env s ⟨i,v,hi,hv,rfl,rfl⟩;by_cases hlt:i<ds.length
 ·have c2:decide ((i:Int)<(ds.length:Int))=true:=by simp;omega
  have w1:IntKind.i64.wrap ((i:Int)+1)=((i+1:Nat):Int):=by rw[IntWalk.i64_in _ (by omega)];rfl
  have hlt2:i<n.kids.length:=by omega
  have hsame:n.kids[i]=ds[i]:=by simp[hk1,List.getElem_append_left hlt]
  have g1:=q7 hlt2;rw[hsame] at g1;rw[List.drop_eq_getElem_cons hlt] at hv;have hv:XI (d+1) (v++qO [Z7 (d+1) ds[i],[59,32]]) (ds.drop (i+1))=z:=hv;have hle:=FM (d+1) (ds.drop (i+1)) (v++qO [Z7 (d+1) ds[i],[59,32]]);rw[hv,xlA,Zf] at hle;simp only[xlC,xlN] at hle;have hmem:=hdm _ (List.getElem_mem hlt);simp -implicitDefEqProofs (maxSteps:=3000000) only[go_sem,w0,c2,w1,xlM,g1,za,ZY,VL,VJ,VK,VI,zP];repeat refine Xs ?_
  refine ia (hgd _ (List.getElem_mem hlt)) (hr0.kids _ hmem) (hd.kids _ hmem |>.mono (Nat.le_succ _)) (hf.kids.1 _ hmem) rfl (by omega) ?_;simp -implicitDefEqProofs (maxSteps:=3000000) only[go_sem,w0,c2,w1,xlM,g1,za,ZY,VL,VJ,VK,VI,zP];repeat refine Xs ?_
  refine⟨k-1,_,by omega,?_,i+1,v++qO [Z7 (d+1) ds[i],[59,32]],by omega,hv,rfl⟩;try simp only[qO,xaA,xcA,xnA]
  exact qu
 ·have c2:decide ((i:Int)<(ds.length:Int))=false:=by simp;omega
  have hv:v=z:=by rw[←hv,List.drop_of_length_le (by omega)];rfl
  subst hv;simp -implicitDefEqProofs (maxSteps:=3000000) only[go_sem,w0,c2,xlM,za,ge,ZY,VL,VJ,VK,VI,zP];repeat refine Xs ?_
  refine Ep (WM (d+1)) ⟨hge,hr0.kids _ hem⟩ (hd.kids _ hem) (hf.kids.1 _ hem) (m:=7) (lo:=7) rfl (by omega) ?_;simp -implicitDefEqProofs (maxSteps:=3000000) only[go_sem,w0,c2,xlM,za,ge,ZY,VL,VJ,VK,VI,zP];repeat refine Xs ?_
  exact zy (zi _ _) (X6 (by rw[←hr];simp only[qO,xaA,xcA,xnA]) hk)
theorem sT{d:Nat}{n:Nd}(hg:GP n)(hr0:AL.Nr n)(hd:Dep (d+2) n)(hf:Fit n){r:Tx}(hr:qR (d+1) n=r)(hl:r.length≤140737488355328){K:SV→St→Prop}{st:St}(hk:K (.sc (.string (ba r))) st) :
  ACalls prog 16 [.agg [.sc (.int .i64 n.kind),.sc (.string (ba n.text)),.sc (.int .i64 n.num),.sc (.int .i64 n.pos),.slice .imm 1 (n.names.map qc),.slice .imm 6 (n.kids.map zq)]] K st:=by
 have:=oT hg hr0 hd hf hr hl hk;rw[qG] at this;exact this
end Go.Proofs
