/- few2, ShowRaw: the law. -/
import Derived.Test.YtkokccjfpebomaaGreatDoorD2
import Derived.Test.YtkokccjfpebomaaGreatDoorR3
set_option linter.all false
set_option maxHeartbeats 8000000
set_option maxRecDepth 8000
namespace Go.AL
theorem Uv{st ex:St}{K:SV→St→Prop}{nid nver kid kver:Nat}{nd:Nd}(hk:K (zq nd) st):YW st (wl K) (.agg (Xh nid nver kid kver nd)) (st++ex) :=
 ⟨st,ex,rfl,Mod.refl _,jg (m1 :=.own nid nver) (m2 :=.own kid kver) (z1:=1) (z2:=6) (nd:=nd) _,_,US (m1 :=.own nid nver) (m2 :=.own kid kver) (.inl rfl) (.inl rfl),hk⟩
def J1(n:Nd)(i:Nat):List Tx:=(n.names.take i).map fun s=>s.take 300
def UG(d:Nat)(n:Nd)(i:Nat):List Nd:=(n.kids.take i).map (Z' d)
theorem uG{n:Nd}{i:Nat}(h:i<n.names.length):J1 n (i+1)=J1 n i++[n.names[i].take 300]:=by
 unfold J1;rw[List.take_add_one];simp only[xmA,List.getElem?_eq_getElem h,Option.toList_some,List.map_cons,List.map_nil]
theorem yc{d:Nat}{n:Nd}{i:Nat}(h:i<n.kids.length):UG d n (i+1)=UG d n i++[Z' d n.kids[i]]:=by
 unfold UG;rw[List.take_add_one];simp only[xmA,List.getElem?_eq_getElem h,Option.toList_some,List.map_cons,List.map_nil]
def Vz(d:Nat)(n:Nd)(i:Nat):List Nd:=if d=0 then [] else UG (d-1) n i
theorem fJ(d:Nat)(n:Nd):Z' d n = .mk n.kind (n.text.take 300) n.num n.pos (J1 n 6) (Vz d n 5):=by
 cases d <;> rfl
theorem mU{n:Nd}{i:Nat}(h:¬ (i<n.names.length∧i<6))(hi:i≤6):J1 n i=J1 n 6:=by
 by_cases e:i=6
 ·rw[e]
 ·unfold J1;rw[List.take_of_length_le (by omega),List.take_of_length_le (by omega)]
theorem mb{d:Nat}{n:Nd}{i:Nat}(h:¬ (i<n.kids.length∧i<5))(hi:i≤5):UG d n i=UG d n 5:=by
 by_cases e:i=5
 ·rw[e]
 ·unfold UG;rw[List.take_of_length_le (by omega),List.take_of_length_le (by omega)]
theorem mA(n:Nd)(i:Nat):(J1 n i).length≤i:=by unfold J1;simp;omega
theorem cR(d:Nat)(n:Nd)(i:Nat):(UG d n i).length≤i:=by unfold UG;simp;omega
theorem Le{d:Nat}{n:Nd}{i:Nat}(h:¬ (i<n.kids.length∧i<5∧0<d))(hi:i≤5):Vz d n i=Vz d n 5:=by
 unfold Vz;split
 ·rfl
 ·exact mb (by omega) hi
theorem Lh(d:Nat)(n:Nd)(i:Nat):(Vz d n i).length≤i:=by
 unfold Vz;split
 ·simp
 ·exact cR _ n i
theorem Bt{d:Nat}{n:Nd}{i:Nat}(hd:0<d)(h:i<n.kids.length):Vz d n (i+1)=Vz d n i++[Z' (d-1) n.kids[i]]:=by
 unfold Vz;rw[if_neg (by omega),if_neg (by omega)];exact yc h
theorem gY(d:Nat)(n:Nd):Vz d n 0=[]:=by unfold Vz UG;split <;> rfl
def Ud(n:Nd)(ns:List Tx)(ks:List Nd):Nd :=.mk n.kind (n.text.take 300) n.num n.pos ns ks
theorem W2(n:Nd)(ns:List Tx)(ks:List Nd):(Ud n ns ks).kind=n.kind:=rfl
theorem W0(n:Nd)(ns:List Tx)(ks:List Nd):(Ud n ns ks).text=n.text.take 300:=rfl
theorem Eg(n:Nd)(ns:List Tx)(ks:List Nd):(Ud n ns ks).num=n.num:=rfl
theorem Ef(n:Nd)(ns:List Tx)(ks:List Nd):(Ud n ns ks).pos=n.pos:=rfl
theorem Vc(n:Nd)(ns:List Tx)(ks:List Nd):(Ud n ns ks).names=ns:=rfl
theorem Kb(n:Nd)(ns:List Tx)(ks:List Nd):(Ud n ns ks).kids=ks:=rfl
end Go.AL
namespace Go.Proofs
open Go Go.AL Tryz
theorem na(n:Nat)(a b c d:Value):Ids n (.agg [.sc a,.sc b,.sc c,.sc d,.slice .full 0 [],.slice .full 0 []]):=by
 rw[Qc];intro x hx;simp only[List.mem_cons,List.not_mem_nil,or_false] at hx;rcases hx with rfl | rfl | rfl | rfl | rfl | rfl
 ·exact .sc _
 ·exact .sc _
 ·exact .sc _
 ·exact .sc _
 ·exact zT (.inr rfl) fun x hx=>by cases hx
 ·exact zT (.inr rfl) fun x hx=>by cases hx
theorem iw(d:Nat):d≤6→∀ (n:Nd) (K:SV→St→Prop) (st:St),K (zq (Z' d n)) st→ACalls prog 15 [zq n,.sc (.int .i64 d)] K st:=by
 induction d using Nat.strongRecOn with
 | _ d ih =>
 intro hd n K st hk;have hout:=fJ d n;have hI:∀ e,e<d→e≤6→∀ (c:Nd) (K:SV→St→Prop) (st:St),K (zq (Z' e c)) st→ACalls prog 15 [.agg [.sc (.int .i64 c.kind),.sc (.string (ba c.text)),.sc (.int .i64 c.num),.sc (.int .i64 c.pos),.slice .imm 1 (c.names.map qc),.slice .imm 6 (c.kids.map zq)],.sc (.int .i64 e)] K st:=fun e h1 h2 c K st hk=>by
  have:=ih e h1 h2 c K st hk;rwa[qG] at this
 refine zA (zp [] func15 rfl results15 ntmps15 ?_);try simp only[go_sem,za]
 refine zB [] [(0,[11]),(0,[11]),(0,[11]),(0,[11]),(0,[11]),(0,[11]),(0,[11]),(0,[11]),(0,[11]),(0,[11]),(3,[11]),(1,[12])] mixed rfl ?_;try simp only[go_sem,za]
 rw[zt];refine⟨.sc (.string (ba (n.text.take 300))),?_,?_⟩
 ·try simp only[go_sem]
  refine Li rfl ?_;exact zJ
 try simp only[go_sem,za]
 rw[zt];refine⟨.agg [.sc (.int .i64 n.kind),.sc (.string (ba (n.text.take 300))),.sc (.int .i64 n.num),.sc (.int .i64 n.pos),.slice .full 0 [],.slice .full 0 []],?_,?_⟩
 ·try simp only[go_sem]
  exact⟨⟨[],by simp⟩,na _ _ _ _ _,.inl rfl⟩
 try simp only[go_sem,za]
 refine⟨_,_,⟨rfl,rfl⟩,?_⟩;try simp only[go_sem,za]
 refine⟨⟨?_,?_⟩,?_⟩
 ·rw[zt];refine⟨.agg [.sc (.int .i64 n.kind),.sc (.string (ba (n.text.take 300))),.sc (.int .i64 n.num),.sc (.int .i64 n.pos),.slice .full 0 [],.slice .full 0 []],?_,rfl⟩;try simp only[go_sem]
  exact⟨⟨[],by simp⟩,na _ _ _ _ _,.inl rfl⟩
 ·rw[zt];refine⟨.sc (.string (ba (n.text.take 300))),?_,rfl⟩;try simp only[go_sem]
  refine Li rfl ?_;exact zJ
 refine ZS (l:=[.sc (.int .i64 n.kind),.sc (.string (ba (n.text.take 300))),.sc (.int .i64 n.num),.sc (.int .i64 n.pos),.slice .full 0 [],.slice .full 0 []]) (st.length+1) 4 1 0 (dO 1) (by simp) rfl ?_;rw[xA];simp only[xlA,xlC,xlN,xsS,xsZ,xaA,xcA,xnA,Nat.zero_add,Nat.reduceAdd];refine ZS (l:=[.sc (.int .i64 n.kind),.sc (.string (ba (n.text.take 300))),.sc (.int .i64 n.num),.sc (.int .i64 n.pos),.slice (.own (st.length+2) 0) 1 [],.slice .full 0 []]) (st.length+1) 5 6 0 (dO 1) (by simp) rfl ?_;rw[xA];simp only[xlA,xlC,xlN,xsS,xsZ,xaA,xcA,xnA,Nat.zero_add,Nat.reduceAdd];refine zx [] (fun m env s=>∃ (i k:Nat) (ex:St),m+i=6∧env=[zq n,.sc (.int .i64 d),.ref [.sc (.int .i64 n.kind),.sc (.string (ba n.text)),.sc (.int .i64 n.num),.sc (.int .i64 n.pos),.slice .imm 1 (n.names.map qc),.slice .imm 6 (n.kids.map zq)],.any,.ptr st.length 0,.ptr (st.length+1) 0,.sc (.int .i64 i),.any,.any,.any,.any,.any,.any,.any,.any,.any,.any,.any,.any,.any,.any,.any,.any,.any,.any,.any,.any,.any,.any,.any,.any,.any,.any,.any,.any,.any,.any,.any,.any,.any,.any,.any,.any,.any,.any,.any,.any,.any,.any,.any,.any,.any,.any,.any,.any,.any,.any,.any,.any,.any,.any,.any,.any,.any,.any,.any,.any,.any,.any] ∧
  s=st++(.cells qv :: .cells (Xh (st.length+2) k (st.length+3) 0 (Ud n (J1 n i) [])) :: .tok k :: .tok 0::ex)) (n:=6) ?_ ⟨0,0,[],rfl,rfl,rfl⟩ ?_
 ·exact qu
 rintro m env s ⟨i,k,ex,hm,rfl,rfl⟩;have w1:IntKind.i64.wrap ((i:Int)+1)=((i+1:Nat):Int):=by rw[IntWalk.i64_in _ (by omega)];rfl
 by_cases hc:i<n.names.length∧i<6
 ·have c2:decide ((i:Int)<(n.names.length:Int))=true:=by rw[decide_eq_true_eq];omega
  have c3:decide ((i:Int)<6)=true:=by rw[decide_eq_true_eq];omega
  have g1:=Wr hc.1;have hl:=mA n i;unfold Xh;simp only[go_sem,xlM,c2,c3,w1,W2,W0,Eg,Ef,Vc,Kb];refine zB [] [(0,[]),(0,[]),(0,[]),(0,[]),(0,[]),(0,[]),(0,[]),(0,[]),(0,[]),(3,[11]),(0,[]),(1,[12])] mixed rfl ?_;simp only[go_sem,xlM,g1,qv];refine⟨by omega,?_⟩;rw[zt];refine⟨.sc (.string (ba (n.names[i].take 300))),?_,?_⟩
  ·try simp only[go_sem]
   refine Li rfl ?_;exact zJ
  try simp only[go_sem]
  rw[zt];refine⟨.slice .full 1 [.sc (.string (ba (n.names[i].take 300)))],?_,?_⟩
  ·try simp only[go_sem]
   exact⟨⟨[],by simp⟩,Z1 _ _ (.inr rfl) _ [n.names[i].take 300],.inl rfl⟩
  simp only[go_sem];refine⟨_,_,⟨Tryz.app1 (by omega),rfl,rfl⟩,?_⟩;simp only[go_sem,w1];refine⟨m-1,_,by omega,?_,i+1,k+1,_,by omega,rfl,by rw[uG hc.1,xmA];rfl⟩;exact qu
 have hx:J1 n i=J1 n 6:=mU hc (by omega);have hcc:decide ((i:Int)<(n.names.length:Int))=false∨(decide ((i:Int)<(n.names.length:Int))=true∧decide ((i:Int)<6)=false):=by
  simp only[decide_eq_true_eq,decide_eq_false_iff_not];omega
 rcases hcc with c2 | ⟨c2,c3⟩
 ·simp only[go_sem,xlM,c2];refine zx [] (fun m env s=>∃ (i k2:Nat) (ex:St),m+i=5∧env=[zq n,.sc (.int .i64 d),.ref [.sc (.int .i64 n.kind),.sc (.string (ba n.text)),.sc (.int .i64 n.num),.sc (.int .i64 n.pos),.slice .imm 1 (n.names.map qc),.slice .imm 6 (n.kids.map zq)],.any,.ptr st.length 0,.ptr (st.length+1) 0,.any,.sc (.int .i64 i),.any,.any,.any,.any,.any,.any,.any,.any,.any,.any,.any,.any,.any,.any,.any,.any,.any,.any,.any,.any,.any,.any,.any,.any,.any,.any,.any,.any,.any,.any,.any,.any,.any,.any,.any,.any,.any,.any,.any,.any,.any,.any,.any,.any,.any,.any,.any,.any,.any,.any,.any,.any,.any,.any,.any,.any,.any,.any,.any,.any,.any] ∧
   s=st++(.cells qv :: .cells (Xh (st.length+2) k (st.length+3) k2 (Ud n (J1 n 6) (Vz d n i))) :: .tok k :: .tok k2::ex)) (n:=5) ?_ ⟨0,0,ex,rfl,rfl,by rw[hx,gY]⟩ ?_
  ·exact qu
  rintro m env s ⟨j,k2,ex,hm,rfl,rfl⟩;have w2:IntKind.i64.wrap ((j:Int)+1)=((j+1:Nat):Int):=by rw[IntWalk.i64_in _ (by omega)];rfl
  by_cases hc2:j<n.kids.length∧j<5∧0<d
  ·have e2:decide ((j:Int)<(n.kids.length:Int))=true:=by rw[decide_eq_true_eq];omega
   have e3:decide ((j:Int)<5)=true:=by rw[decide_eq_true_eq];omega
   have e4:decide ((0:Int)<(d:Int))=true:=by rw[decide_eq_true_eq];omega
   have w3:IntKind.i64.wrap ((d:Int)-1)=((d-1:Nat):Int):=by rw[IntWalk.i64_in _ (by omega)];omega
   have g1:=q7 hc2.1;have hl:=Lh d n j;unfold Xh;simp only[go_sem,gt_iff_lt,xlM,e2,e3,e4,w2,W2,W0,Eg,Ef,Vc,Kb];refine zB [] [(0,[]),(0,[]),(0,[]),(0,[]),(0,[]),(0,[]),(0,[]),(0,[]),(0,[]),(0,[]),(0,[]),(3,[13]),(0,[]),(1,[14])] mixed rfl ?_;simp only[go_sem,xlM,g1,qv,w3,za];refine⟨by omega,?_⟩;rw[zt];refine⟨zq (Z' (d-1) n.kids[j]),?_,?_⟩
   ·try simp only[go_sem]
    refine hI (d-1) (by omega) (by omega) _ _ _ ?_;exact⟨⟨[],by simp⟩,JX _ _,.inl rfl⟩
   try simp only[go_sem]
   rw[zt];refine⟨.slice .full 6 [zq (Z' (d-1) n.kids[j])],?_,?_⟩
   ·try simp only[go_sem]
    exact⟨⟨[],by simp⟩,zM _ _ (.inr rfl) _ [Z' (d-1) n.kids[j]],.inl rfl⟩
   simp only[go_sem];refine⟨_,_,⟨Tryz.app6 (by omega),rfl,rfl⟩,?_⟩;simp only[go_sem,w2];refine⟨m-1,_,by omega,?_,j+1,k2+1,_,by omega,rfl,by rw[Bt hc2.2.2 hc2.1,xmA];rfl⟩;exact qu
  have hy:=Le hc2 (by omega);have hk2:K (zq (Ud n (J1 n 6) (Vz d n j))) st:=by rw[hy];rw[hout] at hk;exact hk
  have hcd:decide ((j:Int)<(n.kids.length:Int))=false∨(decide ((j:Int)<(n.kids.length:Int))=true∧decide ((j:Int)<5)=false)∨(decide ((j:Int)<(n.kids.length:Int))=true∧decide ((j:Int)<5)=true∧decide ((0:Int)<(d:Int))=false):=by
   simp only[decide_eq_true_eq,decide_eq_false_iff_not];omega
  rcases hcd with e2 | ⟨e2,e3⟩ | ⟨e2,e3,e4⟩
  ·unfold Xh;simp only[go_sem,gt_iff_lt,xlM,e2,W2,W0,Eg,Ef,Vc,Kb,qv];exact Uv hk2
  ·unfold Xh;simp only[go_sem,gt_iff_lt,xlM,e2,e3,W2,W0,Eg,Ef,Vc,Kb,qv];exact Uv hk2
  ·unfold Xh;simp only[go_sem,gt_iff_lt,xlM,e2,e3,e4,W2,W0,Eg,Ef,Vc,Kb,qv];exact Uv hk2
 ·simp only[go_sem,xlM,c2,c3];refine zx [] (fun m env s=>∃ (i k2:Nat) (ex:St),m+i=5∧env=[zq n,.sc (.int .i64 d),.ref [.sc (.int .i64 n.kind),.sc (.string (ba n.text)),.sc (.int .i64 n.num),.sc (.int .i64 n.pos),.slice .imm 1 (n.names.map qc),.slice .imm 6 (n.kids.map zq)],.any,.ptr st.length 0,.ptr (st.length+1) 0,.any,.sc (.int .i64 i),.any,.any,.any,.any,.any,.any,.any,.any,.any,.any,.any,.any,.any,.any,.any,.any,.any,.any,.any,.any,.any,.any,.any,.any,.any,.any,.any,.any,.any,.any,.any,.any,.any,.any,.any,.any,.any,.any,.any,.any,.any,.any,.any,.any,.any,.any,.any,.any,.any,.any,.any,.any,.any,.any,.any,.any,.any,.any,.any,.any,.any] ∧
   s=st++(.cells qv :: .cells (Xh (st.length+2) k (st.length+3) k2 (Ud n (J1 n 6) (Vz d n i))) :: .tok k :: .tok k2::ex)) (n:=5) ?_ ⟨0,0,ex,rfl,rfl,by rw[hx,gY]⟩ ?_
  ·exact qu
  rintro m env s ⟨j,k2,ex,hm,rfl,rfl⟩;have w2:IntKind.i64.wrap ((j:Int)+1)=((j+1:Nat):Int):=by rw[IntWalk.i64_in _ (by omega)];rfl
  by_cases hc2:j<n.kids.length∧j<5∧0<d
  ·have e2:decide ((j:Int)<(n.kids.length:Int))=true:=by rw[decide_eq_true_eq];omega
   have e3:decide ((j:Int)<5)=true:=by rw[decide_eq_true_eq];omega
   have e4:decide ((0:Int)<(d:Int))=true:=by rw[decide_eq_true_eq];omega
   have w3:IntKind.i64.wrap ((d:Int)-1)=((d-1:Nat):Int):=by rw[IntWalk.i64_in _ (by omega)];omega
   have g1:=q7 hc2.1;have hl:=Lh d n j;unfold Xh;simp only[go_sem,gt_iff_lt,xlM,e2,e3,e4,w2,W2,W0,Eg,Ef,Vc,Kb];refine zB [] [(0,[]),(0,[]),(0,[]),(0,[]),(0,[]),(0,[]),(0,[]),(0,[]),(0,[]),(0,[]),(0,[]),(3,[13]),(0,[]),(1,[14])] mixed rfl ?_;simp only[go_sem,xlM,g1,qv,w3,za];refine⟨by omega,?_⟩;rw[zt];refine⟨zq (Z' (d-1) n.kids[j]),?_,?_⟩
   ·try simp only[go_sem]
    refine hI (d-1) (by omega) (by omega) _ _ _ ?_;exact⟨⟨[],by simp⟩,JX _ _,.inl rfl⟩
   try simp only[go_sem]
   rw[zt];refine⟨.slice .full 6 [zq (Z' (d-1) n.kids[j])],?_,?_⟩
   ·try simp only[go_sem]
    exact⟨⟨[],by simp⟩,zM _ _ (.inr rfl) _ [Z' (d-1) n.kids[j]],.inl rfl⟩
   simp only[go_sem];refine⟨_,_,⟨Tryz.app6 (by omega),rfl,rfl⟩,?_⟩;simp only[go_sem,w2];refine⟨m-1,_,by omega,?_,j+1,k2+1,_,by omega,rfl,by rw[Bt hc2.2.2 hc2.1,xmA];rfl⟩;exact qu
  have hy:=Le hc2 (by omega);have hk2:K (zq (Ud n (J1 n 6) (Vz d n j))) st:=by rw[hy];rw[hout] at hk;exact hk
  have hcd:decide ((j:Int)<(n.kids.length:Int))=false∨(decide ((j:Int)<(n.kids.length:Int))=true∧decide ((j:Int)<5)=false)∨(decide ((j:Int)<(n.kids.length:Int))=true∧decide ((j:Int)<5)=true∧decide ((0:Int)<(d:Int))=false):=by
   simp only[decide_eq_true_eq,decide_eq_false_iff_not];omega
  rcases hcd with e2 | ⟨e2,e3⟩ | ⟨e2,e3,e4⟩
  ·unfold Xh;simp only[go_sem,gt_iff_lt,xlM,e2,W2,W0,Eg,Ef,Vc,Kb,qv];exact Uv hk2
  ·unfold Xh;simp only[go_sem,gt_iff_lt,xlM,e2,e3,W2,W0,Eg,Ef,Vc,Kb,qv];exact Uv hk2
  ·unfold Xh;simp only[go_sem,gt_iff_lt,xlM,e2,e3,e4,W2,W0,Eg,Ef,Vc,Kb,qv];exact Uv hk2
theorem so{n N:Nd}(hN:Z' 6 n=N){K:SV→St→Prop}{st:St}(hk:K (zq N) st) :
  ACalls prog 15 [.agg [.sc (.int .i64 n.kind),.sc (.string (ba n.text)),.sc (.int .i64 n.num),.sc (.int .i64 n.pos),.slice .imm 1 (n.names.map qc),.slice .imm 6 (n.kids.map zq)],.sc (.int .i64 6)] K st:=by
 subst hN;have:=iw 6 (Nat.le_refl _) n K st hk;rw[qG] at this;exact this
theorem Ax{n N:Nd}(hN:Z' 6 n=N)(hsh:JQ 6 N=some ([],1)){gid:Nat}{gm:Int}{K:SV→St→Prop}{st:St}(hg:UC gid gm st)(hk:K (.sc (.bool true)) st):ACalls prog 6 [zq n] K st:=by
 refine zd [1] func6 rfl results6 ntmps6 ?_;have hw:(qR 6 N).length≤140737488355328:=by rw[←hN];exact ua 6 n
 have hf:Fit N:=by rw[←hN];exact BF 6 n
 have hd:Dep (6+1) N:=by rw[←hN];exact BW 6 n
 simp only[go_sem,za];refine so hN ?_;simp only[go_sem,za];refine fd hd hf hsh hw (JJ hg) ?_;simp only[go_sem,za,RQ,RF,Rx];refine HM (JJ hg) ?_;try simp only[go_sem]
 exact zF (zi _ _) hk
theorem Cr{n N:Nd}(hN:Z' 6 n=N)(hnr:AL.Nr n){t:Tx}(hsh:JQ 6 N=some (t,0)){m:Nd}{b:Int}(hp2:qp t=some (m,b,0))(hsm:Zg N m=true)(ht0:t=qR 6 N)
  {gid:Nat} {gm:Int} {K:SV→St→Prop} {st:St} (hg:UC gid gm st) (hk:K (.sc (.bool true)) st):ACalls prog 6 [zq n] K st:=by
 refine zd [1] func6 rfl results6 ntmps6 ?_;have hw:(qR 6 N).length≤140737488355328:=by rw[←hN];exact ua 6 n
 have hf:Fit N:=by rw[←hN];exact BF 6 n
 have hd:Dep (6+1) N:=by rw[←hN];exact BW 6 n
 have hr:AL.Nr N:=by rw[←hN];exact pA 6 n hnr
 have hgp:GP N:=lJ hsm (jo hp2);have ht:=vW hp2;have hfn:=hf.few;have hfm:=kU hp2;have ett:(t==t)=true:=by simp
 simp only[go_sem,za];refine so hN ?_;simp only[go_sem,za];refine fd hd hf hsh hw (JJ hg) ?_;simp only[go_sem,za,Mr];refine Hg hp2 (by omega) ?_;simp only[go_sem,za,Mr];refine nC hfn hfm hsm ?_;simp only[go_sem,za,Mr,P7];refine sT (d:=5) hgp hr hd hf ht0.symm (by omega) ?_;simp only[go_sem,P7,ett,QH];refine HM (JJ hg) ?_;try simp only[go_sem,P7,ett,Bool.and_self]
 exact zF (zi _ _) hk
theorem sI{n:Nd}(hnr:AL.Nr n){gid:Nat}{gm:Int}{K:SV→St→Prop}{st:St}(hg:UC gid gm st)(hk:K (.sc (.bool true)) st):ACalls prog 6 [zq n] K st:=by
 obtain⟨t,f,hsh⟩:=cC 6 (Z' 6 n);rcases mr hsh with⟨rfl,ht,hk0,m,b,hp2,hsm⟩ | ⟨rfl,rfl⟩
 ·exact Cr rfl hnr hsh hp2 hsm ht hg hk
 ·exact Ax rfl hsh hg hk
end Go.Proofs
set_option maxRecDepth 100000
namespace Go.Proofs
open Go Go.AL Tryz Go.RowKit
section
variable {H:Type} {enc:TypeId×Value→H} {w:World}
theorem cN:prog.cellsOf 9=1:=by kernel_rfl
theorem yy:prog.cellsOf 26=6:=by kernel_rfl
theorem Ro:E' (prog.underlying 9)=false:=by rw[Tryz.underlying9];rfl
theorem Nc:E' (prog.underlying 26)=true:=by rw[Tryz.underlying26];rfl
theorem aI{n:Nat}{cs:List Value}{x:DataW H×List MemPlace}(h:DataW.trod enc prog w 0 (fun _=>true) true n 23 cs=some x):∃ l:List Tx,rd prog w n 23 cs=[.slice .imm 1 (l.map qc)]:=by
 obtain⟨m,css,rfl,h1,h2,h3⟩:=vr Tryz.underlying23 h;obtain⟨l,h4,h5⟩:=E2 qc (fun c=>YL prog 9 (rd prog w m 9 c)) css fun c hc=>by
  obtain⟨y,hy⟩:=h3 c hc;obtain⟨s,hs,_⟩:=Lg Tryz.underlying9 hy;exact⟨s.data.toList,by rw[hs,YL,Ro];rfl⟩
 exact⟨l,by rw[h1,h4,cN]⟩
theorem fk:∀ (n:Nat),(∀ (cs:List Value) (x:DataW H×List MemPlace),DataW.trod enc prog w 0 (fun _=>true) true n 26 cs=some x→∃ nd,AL.Nr nd∧rd prog w n 26 cs=(zq nd).cells) ∧
  (∀ (cs:List Value) (x:DataW H×List MemPlace),DataW.trod enc prog w 0 (fun _=>true) true n 24 cs=some x→∃ l:List Nd,(∀ c∈l,AL.Nr c)∧rd prog w n 24 cs=[.slice .imm 6 (l.map zq)]):=by
 intro n;induction n with
 | zero=>exact⟨fun cs x h=>by simp[DataW.trod] at h,fun cs x h=>by simp[DataW.trod] at h⟩
 | succ n ih =>
  refine⟨fun cs x h=>?_,fun cs x h=>?_⟩
  ·obtain⟨m,hm,h1,h2⟩:=cF Tryz.underlying26 h;obtain rfl:n=m:=by omega
   obtain⟨y0,(g0:DataW.trod enc prog w 0 (fun _=>true) true n 3 ((cs.drop 0).take (prog.cellsOf 3))=some y0)⟩:=h2 0 _ rfl;obtain⟨y1,(g1:DataW.trod enc prog w 0 (fun _=>true) true n 9 ((cs.drop 1).take (prog.cellsOf 9))=some y1)⟩:=h2 1 _ rfl;obtain⟨y2,(g2:DataW.trod enc prog w 0 (fun _=>true) true n 3 ((cs.drop 2).take (prog.cellsOf 3))=some y2)⟩:=h2 2 _ rfl;obtain⟨y3,(g3:DataW.trod enc prog w 0 (fun _=>true) true n 3 ((cs.drop 3).take (prog.cellsOf 3))=some y3)⟩:=h2 3 _ rfl;obtain⟨y4,(g4:DataW.trod enc prog w 0 (fun _=>true) true n 23 ((cs.drop 4).take (prog.cellsOf 23))=some y4)⟩:=h2 4 _ rfl;obtain⟨y5,(g5:DataW.trod enc prog w 0 (fun _=>true) true n 24 ((cs.drop 5).take (prog.cellsOf 24))=some y5)⟩:=h2 5 _ rfl;obtain⟨k,e0,_⟩:=xl Tryz.underlying3 g0;obtain⟨s,e1,_⟩:=Lg Tryz.underlying9 g1;obtain⟨nu,e2,hnu⟩:=xl Tryz.underlying3 g2;obtain⟨at_,e3,_⟩:=xl Tryz.underlying3 g3;obtain⟨ns,e4⟩:=aI g4;obtain⟨ks,hks,e5⟩:=ih.2 _ _ g5;refine⟨.mk k s.data.toList nu at_ ns ks,.mk _ hks (ii hnu),?_⟩;rw[h1,za];simp only[List.flatMap_cons,List.flatMap_nil];rw[e0,e1,e2,e3,e4,e5];rfl
  ·obtain⟨m,css,hm,h1,h2,h3⟩:=vr Tryz.underlying24 h;obtain rfl:n=m:=by omega
   have:∃ l:List { c:Nd // AL.Nr c },css.map (fun c=>YL prog 26 (rd prog w n 26 c))=l.map (fun c=>zq c.1)∧l.length=css.length:=E2 (fun c:{ c:Nd // AL.Nr c }=>zq c.1) (fun c=>YL prog 26 (rd prog w n 26 c)) css fun c hc=>by
    obtain⟨y,hy⟩:=h3 c hc;obtain⟨nd,hnr,hn⟩:=ih.1 _ _ hy;exact⟨⟨nd,hnr⟩,by rw[hn,YL,Nc,if_pos rfl,qG];rfl⟩
   obtain⟨l,h4,_⟩:=this;refine⟨l.map (·.1),fun c hc=>?_,by rw[h1,h4,yy,List.map_map];rfl⟩;obtain⟨x,_,rfl⟩:=List.mem_map.1 hc;exact x.2
theorem ph:laidOutB prog=true:=by kernel_rfl
theorem uQ:prog.readableRec 26=true:=by kernel_rfl
theorem sd:26<prog.types.size:=of_decide_eq_true (by kernel_rfl)
theorem Ao:((prog.book 26).all fun e=>E' (prog.underlying e) || prog.cellsOf e==1)=true:=by kernel_rfl
theorem lu{r:Reach}{base:Nat}{v:Value}{d:DataW H}{ps:List MemPlace}(hok:Value.okWide prog w r base 26 v)(h:DataW.Trod enc prog w 0 (fun _=>true) true 26 v d ps) :
  ∃ t,AL.Nr t∧Rep [] (UE w) w (zq t) v:=by
 obtain⟨n,hn⟩:=h;have hok':∃ cs,v = .agg cs∧cs.size=prog.cellsOf 26∧Row.okWide prog w r base 26 cs:=by
  unfold Value.okWide at hok;rw[Tryz.underlying26] at hok;exact hok
 obtain⟨cs,rfl,_,_⟩:=hok';obtain⟨t,hnr,h1⟩:=(fk n).1 _ _ hn;have hr:=Cj (kids_book ph uQ) (fun t e ht hu=>book_sized uQ ht hu) (fun e he ha=>by
  have:=List.all_eq_true.1 Ao e he.2;rw[ha] at this;simpa using this) n 26 _ _ ⟨sd,book_self 26⟩ hn
 rw[h1] at hr;obtain⟨hl,hr⟩:=hr;rw[za] at hl hr;have hc:(Value.agg cs).cells.toList=cs.toList:=rfl;rw[hc] at hl hr;refine⟨t,hnr,?_⟩;rw[qG];refine .agg _ cs (by simpa using hl.symm) fun i hi=>?_;have:=hr i hi;rw[xgE (l:=cs.toList),Array.getElem?_toList] at this;rw[Array.getD_eq_getD_getElem?];exact this
end
end Go.Proofs
