/- The document's ty, decl, Program. -/
import Derived.Test.YtkokccjfpebomaaGreatDoorW95
set_option linter.all false
set_option maxHeartbeats 4000000
set_option maxRecDepth 8000
namespace Go.AL
def kw:Tx→List Tx→Tx
 | s,[]=>s
 | s,m::r=>kw (s++32::m) r
theorem LF(x:Tx):∀ (l:List Tx) (y:Tx),kw (x++y) l=x++kw y l
 | [],y=>rfl
 | m::r,y=>by
  show kw (x++y++32::m) r=x++kw (y++32::m) r;rw[xaA,LF x r]
theorem mC(b:Tx):∀ (l:List Tx) (a:Tx),qF (a::(l++[b]))=kw a l++32::b
 | [],a=>rfl
 | m::r,a=>by
  show a++32::qF (m::(r++[b]))=kw (a++32::m) r++32::b;have h:kw (a++32::m) r=a++32::kw m r:=by
   rw[LF a r (32::m)];exact congrArg (a ++ ·) (LF [32] r m)
  rw[mC b r m,h];simp only[xaA,xcA]
theorem vp:∀ (l:List Tx) (w:Tx),w.length≤(kw w l).length
 | [],w=>Nat.le_refl _
 | k::r,w=>by
  have h:=vp r (w++32::k);rw[xlA] at h;show _≤(kw _ r).length;omega
end Go.AL
namespace Go.Proofs
open Go Go.AL Tryz
variable {K:SV→St→Prop}{st:St}
theorem Vh:(⟨#[100,111,32]⟩:ByteArray)=ba [100,111,32]:=rfl
theorem Vl:(⟨#[116,121,112,101,32]⟩:ByteArray)=ba [116,121,112,101,32]:=rfl
theorem Vi:(⟨#[32,111,102,32]⟩:ByteArray)=ba [32,111,102,32]:=rfl
theorem Vj:(⟨#[32,44,32]⟩:ByteArray)=ba [32,44,32]:=rfl
def RyC(d:Nat):Prop:=∀ (n:Nd) (r:Tx),Dep d n→Fit n→qk d n=r→r.length≤140737488355328→∀ (K:SV→St→Prop) (st:St),K (.sc (.string (ba r))) st→ACalls prog 50 [zq n] K st
theorem RyC.agg{d:Nat}(hT:RyC d){n:Nd}{r:Tx}(hd:Dep d n)(hf:Fit n)(hr:qk d n=r)(hl:r.length≤140737488355328)(hk:K (.sc (.string (ba r))) st) :
  ACalls prog 50 [.agg [.sc (.int .i64 n.kind),.sc (.string (ba n.text)),.sc (.int .i64 n.num),.sc (.int .i64 n.pos),.slice .imm 1 (n.names.map z8),.slice .imm 6 (n.kids.map zq)]] K st:=by
 have:=hT n r hd hf hr hl K st hk;rw[qR] at this;exact this
theorem Nn{d:Nat}(hT:RyC d):RyC (d+1):=by
 intro n r hd hf hr hl K st hk;refine zc [] func50 rfl results50 ntmps50 ?_;have hn:=hf.kids.2.1;have hr:XM (qk d) n.text n.kids=r:=hr;simp -implicitDefEqProofs (maxSteps:=9^9) only[go_sem,za,xlM];refine zt [] (fun k env s=>∃ (i:Nat) (v:Tx),k+i=n.kids.length∧XM (qk d) v (n.kids.drop i)=r∧env=(.any :: .ref [.sc (.int .i64 n.kind),.sc (.string (ba n.text)),.sc (.int .i64 n.num),.sc (.int .i64 n.pos),.slice .imm 1 (n.names.map z8),.slice .imm 6 (n.kids.map zq)] :: .any :: .sc (.string (ba v)) :: .sc (.int .i64 i)::XD [])∧s=st) (n:=n.kids.length) ?_ ⟨0,n.text,by omega,hr,rfl,rfl⟩ ?_
 ·exact qv
 rintro k env s ⟨i,v,hi,hv,rfl,rfl⟩;by_cases hlt:i<n.kids.length
 ·have c2:decide ((i:Int)<(n.kids.length:Int))=true:=by simp;omega
  have w1:=KL i;have g1:=Zm hlt;rw[List.drop_eq_getElem_cons hlt] at hv;have hv:XM (qk d) (if 0<n.kids[i].kids.length then qF [v,[40],qk d n.kids[i],[41]] else qF [v,qk d n.kids[i]]) (n.kids.drop (i+1))=r:=hv;have hle:=H6 (qk d) (n.kids.drop (i+1)) (if 0<n.kids[i].kids.length then qF [v,[40],qk d n.kids[i],[41]] else qF [v,qk d n.kids[i]]);rw[hv] at hle;have hd1:=hd.kids _ (List.getElem_mem hlt);have hf1:=hf.kids.1 _ (List.getElem_mem hlt);by_cases c:0<n.kids[i].kids.length
  ·have b1:decide (0<(n.kids[i].kids.length:Int))=true:=by rw[decide_eq_true_eq];omega
   rw[if_pos c] at hv hle;rw[ZF] at hle;try simp only[xlC,xlN] at hle
   simp -implicitDefEqProofs (maxSteps:=9^9) only[go_sem,c2,w1,xlM,g1,za,gt_iff_lt,b1];repeat refine Xb ?_
   refine hT.agg hd1 hf1 rfl (by omega) ?_;simp -implicitDefEqProofs (maxSteps:=9^9) only[go_sem,c2,w1,xlM,g1,za,gt_iff_lt,b1,ZK,Vh,Vl,Vi,Vj,zL];repeat refine Xb ?_
   refine⟨k-1,_,by omega,?_,i+1,qF [v,[40],qk d n.kids[i],[41]],by omega,hv,rfl⟩;simp only[qF,xaA,xcA,xnA];exact qv
  ·have b1:decide (0<(n.kids[i].kids.length:Int))=false:=by rw[decide_eq_false_iff_not];omega
   rw[if_neg c] at hv hle;rw[q8] at hle;try simp only[xlC,xlN] at hle
   simp -implicitDefEqProofs (maxSteps:=9^9) only[go_sem,c2,w1,xlM,g1,za,gt_iff_lt,b1];repeat refine Xb ?_
   refine hT.agg hd1 hf1 rfl (by omega) ?_;simp -implicitDefEqProofs (maxSteps:=9^9) only[go_sem,c2,w1,xlM,g1,za,gt_iff_lt,b1,ZK,Vh,Vl,Vi,Vj,zL];repeat refine Xb ?_
   refine⟨k-1,_,by omega,?_,i+1,qF [v,qk d n.kids[i]],by omega,hv,rfl⟩;simp only[qF,xaA,xcA,xnA];exact qv
 ·have c2:decide ((i:Int)<(n.kids.length:Int))=false:=by simp;omega
  have hv:v=r:=by rw[←hv,List.drop_of_length_le (by omega)];rfl
  subst hv;simp -implicitDefEqProofs (maxSteps:=9^9) only[go_sem,c2,xlM,za];exact zu (zh _ _) hk
theorem jH:∀ d,RyC d
 | 0=>fun n r hd=>by obtain⟨k,hk⟩:=hd.pos;cases hk
 | d+1=>Nn (jH d)
theorem xR{d:Nat}{n:Nd}(hkd:n.kind=28)(h0:0<n.kids.length)(hg:∀ c∈n.kids,GN c)(hd:Dep (d+1) n)(hf:Fit n){r:Tx}(hr:Z' (zn d) [108,101,116] n 6=r)(hl:r.length≤140737488355328)(hk:K (.sc (.string (ba r))) st):ACalls prog 31 [zq n] K st:=by
 refine zc [] func31 rfl results31 ntmps31 ?_;have e28:(n.kind==28)=true:=by simp[hkd]
 have g0:=qy h0;have hg0:GN (kid n 0):=by unfold kid;rw[xgE,List.getElem?_eq_getElem h0];exact hg _ (List.getElem_mem h0)
 have hl1:=hl;unfold Z' at hr;rw[←hr,ZF] at hl1;simp only[xlC,xlN] at hl1;simp -implicitDefEqProofs (maxSteps:=9^9) only[go_sem,za,e28];refine zy [] mixed rfl ?_;try simp only[go_sem,za,xlM,Int.reduceToNat,g0,ZK,Vh,Vl,Vi,Vj,zL]
 repeat refine Xb ?_
 rw[zp];refine⟨.sc (.string (ba (zg (zn d) (kid n 0) 6 6))),?_,?_⟩
 ·simp only[go_sem];refine HA (WA d) hg0 (z7 hd h0) (zZ hf h0) rfl (by omega) ?_;exact zG
 try simp only[go_sem,za,xlM,Int.reduceToNat,g0,ZK,Vh,Vl,Vi,Vj,zL]
 repeat refine Xb ?_
 exact zu (zh _ _) (XW (by rw[←hr];simp only[qF,xaA,xcA,xnA,xaN]) hk)
theorem hH{d:Nat}{n:Nd}(hkd:n.kind=29)(h0:0<n.kids.length)(hg:∀ c∈n.kids,GN c)(hd:Dep (d+1) n)(hf:Fit n){r:Tx}(hr:Z' (zn d) [108,101,116,32,114,101,99] n 6=r)(hl:r.length≤140737488355328)(hk:K (.sc (.string (ba r))) st):ACalls prog 31 [zq n] K st:=by
 refine zc [] func31 rfl results31 ntmps31 ?_;have e29:(n.kind==29)=true:=by simp[hkd]
 have e28:(n.kind==28)=false:=by simp[hkd]
 have g0:=qy h0;have hg0:GN (kid n 0):=by unfold kid;rw[xgE,List.getElem?_eq_getElem h0];exact hg _ (List.getElem_mem h0)
 have hl1:=hl;unfold Z' at hr;rw[←hr,ZF] at hl1;simp only[xlC,xlN] at hl1;simp -implicitDefEqProofs (maxSteps:=9^9) only[go_sem,za,e28,e29];refine zy [] mixed rfl ?_;try simp only[go_sem,za,xlM,Int.reduceToNat,g0,ZK,Vh,Vl,Vi,Vj,zL]
 repeat refine Xb ?_
 rw[zp];refine⟨.sc (.string (ba (zg (zn d) (kid n 0) 6 6))),?_,?_⟩
 ·simp only[go_sem];refine HA (WA d) hg0 (z7 hd h0) (zZ hf h0) rfl (by omega) ?_;exact zG
 try simp only[go_sem,za,xlM,Int.reduceToNat,g0,ZK,Vh,Vl,Vi,Vj,zL]
 repeat refine Xb ?_
 exact zu (zh _ _) (XW (by rw[←hr];simp only[qF,xaA,xcA,xnA,xaN]) hk)
theorem xe(T:Nd→Tx)(i:Nat)(s:Tx)(k:Nd)(r:List Nd):V1 T i s (k::r)=V1 T (i+1) (s++((if i=0 then [32,111,102,32] else [32,44,32])++T k)) r:=by
 by_cases h:i=0
 ·simp only[V1,qF,h,if_true,xaA,xcA,xnA]
 ·simp only[V1,qF,h,if_false,xaA,xcA,xnA]
theorem nu(d:Nat)(i:Nat)(v:Tx)(k:Nd)(r:List Nd):YH d i (if i=0 then v++[32,61] else v) (k::r)=YH d (i+1) (v++((if i=0 then [32,61,32] else [32,124,32])++KD d k)) r:=by
 by_cases h:i=0
 ·simp only[YH,qF,h,if_true,Nat.lt_irrefl,if_false,xaA,xcA,xnA]
 ·simp only[YH,qF,h,if_false,Nat.pos_of_ne_zero h,if_true,xaA,xcA,xnA]
theorem mf{l:List Tx}{i:Nat}(h:i<l.length):(l.map z8).getD i .any = .sc (.string (ba l[i])):=by
 rw[xgE,List.getElem?_map,List.getElem?_eq_getElem h];rfl
theorem gS{d:Nat}{n:Nd}(hkd:n.kind=25)(h0:0<n.kids.length)(hd:Dep (d+1) n)(hf:Fit n){r:Tx}(hr:YH d 0 (qF (([[116,121,112,101],n.text]++n.names)++[[61]])) n.kids=r)(hl:r.length≤140737488355328)(hk:K (.sc (.string (ba r))) st):ACalls prog 31 [zq n] K st:=by
 refine zc [] func31 rfl results31 ntmps31 ?_;have e28:(n.kind==28)=false:=by simp[hkd]
 have e29:(n.kind==29)=false:=by simp[hkd]
 have hn:=hf.kids.2.1;have hns:=hf.kids.2.2.1;have hw:qF (([[116,121,112,101],n.text]++n.names)++[[61]])=kw (116::121::112::101::32::n.text) n.names++[32,61]:=mC [61] (n.text::n.names) [116,121,112,101];rw[hw] at hr;have hle0:=Km d n.kids 0 (kw (116::121::112::101::32::n.text) n.names++[32,61]);rw[hr,xlA] at hle0;have hle1:=vp n.names (116::121::112::101::32::n.text);simp only[xlC] at hle1;generalize hz:kw (116::121::112::101::32::n.text) n.names=z at *;simp -implicitDefEqProofs (maxSteps:=9^9) only[go_sem,za,xlM,e28,e29,ZK,Vh,Vl,Vi,Vj,zL,xcA,xnA];repeat refine Xb ?_
 refine zt [] (fun k env s=>∃ (i:Nat) (v:Tx),k+i=n.names.length∧kw v (n.names.drop i)=z∧env=(.any :: .ref [.sc (.int .i64 n.kind),.sc (.string (ba n.text)),.sc (.int .i64 n.num),.sc (.int .i64 n.pos),.slice .imm 1 (n.names.map z8),.slice .imm 6 (n.kids.map zq)] :: .any :: .sc (.string (ba v)) :: .sc (.int .i64 i) :: .any::XD (QX []))∧s=st) (n:=n.names.length) ?_ ⟨0,_,by omega,hz,rfl,rfl⟩ ?_
 ·exact qv
 rintro k env s ⟨i,v,hi,hv,rfl,rfl⟩;by_cases hlt:i<n.names.length
 ·have c2:decide ((i:Int)<(n.names.length:Int))=true:=by simp;omega
  have w1:=KL i;have g1:=mf hlt;rw[List.drop_eq_getElem_cons hlt] at hv;have hv:kw (v++32::n.names[i]) (n.names.drop (i+1))=z:=hv;have hle:=vp (n.names.drop (i+1)) (v++32::n.names[i]);rw[hv,xlA] at hle;simp only[xlC] at hle;simp -implicitDefEqProofs (maxSteps:=9^9) only[go_sem,c2,w1,xlM,g1,za,ZK,Vh,Vl,Vi,Vj,zL];repeat refine Xb ?_
  refine⟨k-1,_,by omega,?_,i+1,v++32::n.names[i],by omega,hv,rfl⟩;try simp only[xaA,xcA,xnA]
  exact qv
 have c2:decide ((i:Int)<(n.names.length:Int))=false:=by simp;omega
 have hv:v=z:=by rw[←hv,List.drop_of_length_le (by omega)];rfl
 subst hv;simp -implicitDefEqProofs (maxSteps:=9^9) only[go_sem,c2,xlM,za];clear hi hlt c2;refine zt [] (fun k env s'=>∃ (i:Nat) (u:Tx),k+i=n.kids.length∧YH d i (if i=0 then u++[32,61] else u) (n.kids.drop i)=r∧(n.kids.length≤i→0<i)∧env=(.any :: .ref [.sc (.int .i64 n.kind),.sc (.string (ba n.text)),.sc (.int .i64 n.num),.sc (.int .i64 n.pos),.slice .imm 1 (n.names.map z8),.slice .imm 6 (n.kids.map zq)] :: .any :: .sc (.string (ba u)) :: .any :: .sc (.int .i64 i)::XD (QX []))∧s'=s) (n:=n.kids.length) ?_ ⟨0,v,by omega,hr,fun h=>by omega,rfl,rfl⟩ ?_
 ·exact qv
 rintro k env s' ⟨i,u,hi,hv,hpos,rfl,rfl⟩;by_cases hlt:i<n.kids.length
 rotate_left
 ·have c2:decide ((i:Int)<(n.kids.length:Int))=false:=by simp;omega
  have hv:u=r:=by
   rw[List.drop_of_length_le (by omega),if_neg (by have:=hpos (by omega);omega)] at hv;exact hv
  subst hv;simp -implicitDefEqProofs (maxSteps:=9^9) only[go_sem,c2,xlM,za];exact zu (zh _ _) hk
 have c2:decide ((i:Int)<(n.kids.length:Int))=true:=by simp;omega
 have w1:=KL i;have g1:=Zm hlt;rw[List.drop_eq_getElem_cons hlt,nu] at hv;have hle:=Km d (n.kids.drop (i+1)) (i+1) (u++((if i=0 then [32,61,32] else [32,124,32])++KD d n.kids[i]));rw[hv,xlA,xlA] at hle;have hd1:Dep d n.kids[i]:=hd.kids _ (List.getElem_mem hlt);have hf1:=hf.kids.1 _ (List.getElem_mem hlt);have hn1:=hf1.kids.2.1;generalize hP:u++(if i=0 then [32,61,32] else [32,124,32])=P;have hPl:P.length=u.length+3:=by rw[←hP,xlA];split <;> rfl
 have hx3:(if i=0 then ([32,61,32]:Tx) else [32,124,32]).length=3:=by split <;> rfl
 have hde:V1 (qk d) 0 n.kids[i].text n.kids[i].kids=KD d n.kids[i]:=rfl;have hle2:=UZ (qk d) n.kids[i].kids 0 n.kids[i].text;rw[hde] at hle2;rw[←xaA,hP] at hv;generalize hDD:KD d n.kids[i]=DD at *;have inner:∀ (W:Prop),W→W:=fun _ h=>h;by_cases ci:i=0
 ·have b1:((i:Int)==0)=true:=by simp[ci]
  rw[if_pos ci] at hP;simp -implicitDefEqProofs (maxSteps:=9^9) only[go_sem,c2,b1,g1,xlM,za,ZK,Vh,Vl,Vi,Vj,zL,hP];repeat refine Xb ?_
  refine zt [] (fun q env s''=>∃ (j:Nat) (y:Tx),q+j=n.kids[i].kids.length∧V1 (qk d) j y (n.kids[i].kids.drop j)=DD∧env=(.any :: .ref [.sc (.int .i64 n.kind),.sc (.string (ba n.text)),.sc (.int .i64 n.num),.sc (.int .i64 n.pos),.slice .imm 1 (n.names.map z8),.slice .imm 6 (n.kids.map zq)] :: .any :: .sc (.string (ba (P++y))) :: .any :: .sc (.int .i64 i) :: .sc (.int .i64 j) :: .any :: .any :: .any::XQ (JW (X3 (QX []))))∧s''=s') (n:=n.kids[i].kids.length) ?_ ⟨0,n.kids[i].text,by omega,hde,rfl,rfl⟩ ?_
  ·exact qv
  rintro q env s'' ⟨j,y,hj,hy,rfl,rfl⟩;by_cases hlj:j<n.kids[i].kids.length
  rotate_left
  ·have c3:decide ((j:Int)<(n.kids[i].kids.length:Int))=false:=by simp;omega
   have hy:y=DD:=by rw[←hy,List.drop_of_length_le (by omega)];rfl
   subst hy;simp -implicitDefEqProofs (maxSteps:=9^9) only[go_sem,c3,g1,w1,xlM,za];repeat refine Xb ?_
   refine⟨k-1,_,by omega,?_,i+1,P++y,by omega,by rw[if_neg (by omega)];exact hv,fun _=>by omega,rfl⟩;exact qv
  have c3:decide ((j:Int)<(n.kids[i].kids.length:Int))=true:=by simp;omega
  have w3:=KL j;have g3:=Zm hlj;rw[List.drop_eq_getElem_cons hlj,xe] at hy;have hle3:=UZ (qk d) (n.kids[i].kids.drop (j+1)) (j+1) (y++((if j=0 then [32,111,102,32] else [32,44,32])++qk d n.kids[i].kids[j]));rw[hy,xlA,xlA] at hle3;have hd3:=(hd1.mono (Nat.le_succ d)).kids _ (List.getElem_mem hlj);have hf3:=hf1.kids.1 _ (List.getElem_mem hlj);by_cases cj:j=0
  ·have b3:((j:Int)==0)=true:=by simp[cj]
   rw[if_pos cj] at hy hle3;simp only[xlC,xlN] at hle3;simp -implicitDefEqProofs (maxSteps:=9^9) only[go_sem,c3,b3,g1,g3,w3,xlM,za,ZK,Vh,Vl,Vi,Vj,zL];repeat refine Xb ?_
   refine (jH d).agg hd3 hf3 rfl (by omega) ?_;simp -implicitDefEqProofs (maxSteps:=9^9) only[go_sem,c3,b3,g1,g3,w3,xlM,za,ZK,Vh,Vl,Vi,Vj,zL];repeat refine Xb ?_
   refine⟨q-1,_,by omega,?_,j+1,y++([32,111,102,32]++qk d n.kids[i].kids[j]),by omega,hy,rfl⟩;try simp only[xaA,xcA,xnA]
   exact qv
  ·have b3:((j:Int)==0)=false:=by simp;omega
   rw[if_neg cj] at hy hle3;simp only[xlC,xlN] at hle3;simp -implicitDefEqProofs (maxSteps:=9^9) only[go_sem,c3,b3,g1,g3,w3,xlM,za,ZK,Vh,Vl,Vi,Vj,zL];repeat refine Xb ?_
   refine (jH d).agg hd3 hf3 rfl (by omega) ?_;simp -implicitDefEqProofs (maxSteps:=9^9) only[go_sem,c3,b3,g1,g3,w3,xlM,za,ZK,Vh,Vl,Vi,Vj,zL];repeat refine Xb ?_
   refine⟨q-1,_,by omega,?_,j+1,y++([32,44,32]++qk d n.kids[i].kids[j]),by omega,hy,rfl⟩;try simp only[xaA,xcA,xnA]
   exact qv
 ·have b1:((i:Int)==0)=false:=by simp;omega
  rw[if_neg ci] at hP;simp -implicitDefEqProofs (maxSteps:=9^9) only[go_sem,c2,b1,g1,xlM,za,ZK,Vh,Vl,Vi,Vj,zL,hP];repeat refine Xb ?_
  refine zt [] (fun q env s''=>∃ (j:Nat) (y:Tx),q+j=n.kids[i].kids.length∧V1 (qk d) j y (n.kids[i].kids.drop j)=DD∧env=(.any :: .ref [.sc (.int .i64 n.kind),.sc (.string (ba n.text)),.sc (.int .i64 n.num),.sc (.int .i64 n.pos),.slice .imm 1 (n.names.map z8),.slice .imm 6 (n.kids.map zq)] :: .any :: .sc (.string (ba (P++y))) :: .any :: .sc (.int .i64 i) :: .sc (.int .i64 j) :: .any :: .any :: .any::XQ (JW (X3 (QX []))))∧s''=s') (n:=n.kids[i].kids.length) ?_ ⟨0,n.kids[i].text,by omega,hde,rfl,rfl⟩ ?_
  ·exact qv
  rintro q env s'' ⟨j,y,hj,hy,rfl,rfl⟩;by_cases hlj:j<n.kids[i].kids.length
  rotate_left
  ·have c3:decide ((j:Int)<(n.kids[i].kids.length:Int))=false:=by simp;omega
   have hy:y=DD:=by rw[←hy,List.drop_of_length_le (by omega)];rfl
   subst hy;simp -implicitDefEqProofs (maxSteps:=9^9) only[go_sem,c3,g1,w1,xlM,za];repeat refine Xb ?_
   refine⟨k-1,_,by omega,?_,i+1,P++y,by omega,by rw[if_neg (by omega)];exact hv,fun _=>by omega,rfl⟩;exact qv
  have c3:decide ((j:Int)<(n.kids[i].kids.length:Int))=true:=by simp;omega
  have w3:=KL j;have g3:=Zm hlj;rw[List.drop_eq_getElem_cons hlj,xe] at hy;have hle3:=UZ (qk d) (n.kids[i].kids.drop (j+1)) (j+1) (y++((if j=0 then [32,111,102,32] else [32,44,32])++qk d n.kids[i].kids[j]));rw[hy,xlA,xlA] at hle3;have hd3:=(hd1.mono (Nat.le_succ d)).kids _ (List.getElem_mem hlj);have hf3:=hf1.kids.1 _ (List.getElem_mem hlj);by_cases cj:j=0
  ·have b3:((j:Int)==0)=true:=by simp[cj]
   rw[if_pos cj] at hy hle3;simp only[xlC,xlN] at hle3;simp -implicitDefEqProofs (maxSteps:=9^9) only[go_sem,c3,b3,g1,g3,w3,xlM,za,ZK,Vh,Vl,Vi,Vj,zL];repeat refine Xb ?_
   refine (jH d).agg hd3 hf3 rfl (by omega) ?_;simp -implicitDefEqProofs (maxSteps:=9^9) only[go_sem,c3,b3,g1,g3,w3,xlM,za,ZK,Vh,Vl,Vi,Vj,zL];repeat refine Xb ?_
   refine⟨q-1,_,by omega,?_,j+1,y++([32,111,102,32]++qk d n.kids[i].kids[j]),by omega,hy,rfl⟩;try simp only[xaA,xcA,xnA]
   exact qv
  ·have b3:((j:Int)==0)=false:=by simp;omega
   rw[if_neg cj] at hy hle3;simp only[xlC,xlN] at hle3;simp -implicitDefEqProofs (maxSteps:=9^9) only[go_sem,c3,b3,g1,g3,w3,xlM,za,ZK,Vh,Vl,Vi,Vj,zL];repeat refine Xb ?_
   refine (jH d).agg hd3 hf3 rfl (by omega) ?_;simp -implicitDefEqProofs (maxSteps:=9^9) only[go_sem,c3,b3,g1,g3,w3,xlM,za,ZK,Vh,Vl,Vi,Vj,zL];repeat refine Xb ?_
   refine⟨q-1,_,by omega,?_,j+1,y++([32,44,32]++qk d n.kids[i].kids[j]),by omega,hy,rfl⟩;try simp only[xaA,xcA,xnA]
   exact qv
theorem bI{d:Nat}{n:Nd}(hg:GD n)(hr0:Nr n)(hd:Dep (d+1) n)(hf:Fit n){r:Tx}(hr:ZU d n=r)(hl:r.length≤140737488355328)(hk:K (.sc (.string (ba r))) st):ACalls prog 31 [zq n] K st:=by
 unfold ZU at hr;rcases hg with⟨hkd,h0,hg⟩ | ⟨hkd,h0⟩
 ·have hgn:∀ c∈n.kids,GN c:=fun c hc=>⟨hg c hc,hr0.kids c hc⟩;have hm:qa n=true:=by unfold qa;rcases hkd with h | h <;> simp[h] <;> omega
  rcases hkd with hkd | hkd
  ·rw[if_pos ⟨hkd,hm⟩] at hr;exact xR hkd h0 hgn hd hf hr hl hk
  ·rw[if_neg (by rw[hkd];simp),if_pos ⟨hkd,hm⟩] at hr;exact hH hkd h0 hgn hd hf hr hl hk
 ·rw[if_neg (by rw[hkd];simp),if_neg (by rw[hkd];simp),if_neg (by rw[hkd];simp)] at hr;exact gS hkd h0 hd hf hr hl hk
theorem r7{d:Nat}{n:Nd}(hg:GD n)(hr0:Nr n)(hd:Dep (d+1) n)(hf:Fit n){r:Tx}(hr:ZU d n=r)(hl:r.length≤140737488355328)(hk:K (.sc (.string (ba r))) st) :
  ACalls prog 31 [.agg [.sc (.int .i64 n.kind),.sc (.string (ba n.text)),.sc (.int .i64 n.num),.sc (.int .i64 n.pos),.slice .imm 1 (n.names.map z8),.slice .imm 6 (n.kids.map zq)]] K st:=by
 have:=bI hg hr0 hd hf hr hl hk;rw[qR] at this;exact this
theorem BB(d:Nat):∀ (l:List Nd) (w:Tx),w.length≤(Xt d w l).length
 | [],w=>Nat.le_refl _
 | k::r,w=>by
  have h:=BB d r (w++qF [ZU d k,[59,32]]);rw[xlA] at h;show _≤(Xt d _ r).length;omega
theorem b8{d:Nat}{n:Nd}(hg:GP n)(hr0:Nr n)(hd:Dep (d+2) n)(hf:Fit n){r:Tx}(hr:Zj (d+1) n=r)(hl:r.length≤140737488355328)(hk:K (.sc (.string (ba r))) st):ACalls prog 16 [zq n] K st:=by
 refine zc [] func16 rfl results16 ntmps16 ?_;obtain⟨ds,e,hk1,hgd,hge⟩:=hg;have hn:=hf.kids.2.1;have hln:n.kids.length=ds.length+1:=by rw[hk1];simp
 unfold Zj at hr;rw[hk1,List.dropLast_concat,List.getLastD_concat] at hr;have hl1:=hl;rw[←hr,xlA,q8] at hl1;simp only[xlC,xlN] at hl1;have hlt1:ds.length<n.kids.length:=by omega
 have ge:(n.kids.map zq).getD ds.length .any=zq e:=by rw[Zm hlt1];congr 1;simp[hk1]
 have hem:e∈n.kids:=by rw[hk1];simp
 have hdm:∀ c∈ds,c∈n.kids:=fun c hc=>by rw[hk1];simp[hc]
 have w0:IntKind.i64.wrap ((n.kids.length:Int)-1)=(ds.length:Int):=by rw[YO (by omega)];omega
 generalize hz:Xt (d+1) [] ds=z at *;simp -implicitDefEqProofs (maxSteps:=9^9) only[go_sem,za,xlM,bY];refine zt [] (fun k env s=>∃ (i:Nat) (v:Tx),k+i=ds.length∧Xt (d+1) v (ds.drop i)=z∧env=(.any :: .ref [.sc (.int .i64 n.kind),.sc (.string (ba n.text)),.sc (.int .i64 n.num),.sc (.int .i64 n.pos),.slice .imm 1 (n.names.map z8),.slice .imm 6 (n.kids.map zq)] :: .any :: .sc (.string (ba v)) :: .sc (.int .i64 i) :: .any::XQ (JW (X3 [])))∧s=st) (n:=ds.length) ?_ ⟨0,[],by omega,hz,rfl,rfl⟩ ?_
 ·exact qv
 rintro k env s ⟨i,v,hi,hv,rfl,rfl⟩;by_cases hlt:i<ds.length
 ·have c2:decide ((i:Int)<(ds.length:Int))=true:=by simp;omega
  have w1:=KL i;have hlt2:i<n.kids.length:=by omega
  have hsame:n.kids[i]=ds[i]:=by simp[hk1,List.getElem_append_left hlt]
  have g1:=Zm hlt2;rw[hsame] at g1;rw[List.drop_eq_getElem_cons hlt] at hv;have hv:Xt (d+1) (v++qF [ZU (d+1) ds[i],[59,32]]) (ds.drop (i+1))=z:=hv;have hle:=BB (d+1) (ds.drop (i+1)) (v++qF [ZU (d+1) ds[i],[59,32]]);rw[hv,xlA,q8] at hle;simp only[xlC,xlN] at hle;have hmem:=hdm _ (List.getElem_mem hlt);simp -implicitDefEqProofs (maxSteps:=9^9) only[go_sem,w0,c2,w1,xlM,g1,za,ZK,Vh,Vl,Vi,Vj,zL];repeat refine Xb ?_
  refine r7 (hgd _ (List.getElem_mem hlt)) (hr0.kids _ hmem) (hd.kids _ hmem |>.mono (Nat.le_succ _)) (hf.kids.1 _ hmem) rfl (by omega) ?_;simp -implicitDefEqProofs (maxSteps:=9^9) only[go_sem,w0,c2,w1,xlM,g1,za,ZK,Vh,Vl,Vi,Vj,zL];repeat refine Xb ?_
  refine⟨k-1,_,by omega,?_,i+1,v++qF [ZU (d+1) ds[i],[59,32]],by omega,hv,rfl⟩;try simp only[qF,xaA,xcA,xnA]
  exact qv
 ·have c2:decide ((i:Int)<(ds.length:Int))=false:=by simp;omega
  have hv:v=z:=by rw[←hv,List.drop_of_length_le (by omega)];rfl
  subst hv;simp -implicitDefEqProofs (maxSteps:=9^9) only[go_sem,w0,c2,xlM,za,ge,ZK,Vh,Vl,Vi,Vj,zL];repeat refine Xb ?_
  refine HA (WA (d+1)) ⟨hge,hr0.kids _ hem⟩ (hd.kids _ hem) (hf.kids.1 _ hem) (m:=7) (lo:=7) rfl (by omega) ?_;simp -implicitDefEqProofs (maxSteps:=9^9) only[go_sem,w0,c2,xlM,za,ge,ZK,Vh,Vl,Vi,Vj,zL];repeat refine Xb ?_
  exact zu (zh _ _) (XW (by rw[←hr];simp only[qF,xaA,xcA,xnA]) hk)
theorem sl{d:Nat}{n:Nd}(hg:GP n)(hr0:AL.Nr n)(hd:Dep (d+2) n)(hf:Fit n){r:Tx}(hr:Zj (d+1) n=r)(hl:r.length≤140737488355328)(hk:K (.sc (.string (ba r))) st) :
  ACalls prog 16 [.agg [.sc (.int .i64 n.kind),.sc (.string (ba n.text)),.sc (.int .i64 n.num),.sc (.int .i64 n.pos),.slice .imm 1 (n.names.map z8),.slice .imm 6 (n.kids.map zq)]] K st:=by
 have:=b8 hg hr0 hd hf hr hl hk;rw[qR] at this;exact this
end Go.Proofs
