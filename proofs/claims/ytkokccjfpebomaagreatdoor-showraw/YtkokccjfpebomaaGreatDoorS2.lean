/- strings.Join, by the kit's contract; show.put. -/
import Derived.Shelf.Strings.OnBuilder
import Derived.Test.YtkokccjfpebomaaGreatDoorK6
import Derived.Test.YtkokccjfpebomaaGreatDoorS1
import Derived.Below
set_option linter.all false
set_option maxHeartbeats 4000000
set_option maxRecDepth 8000
namespace Go.AL
open Go.RowKit
theorem jR{P:Program}{f:FuncId}{args:List SV}{K:SV→St→Prop}{st:St}{x:SV}{v:Value}(hv:∀ s σ w,Rep s σ w x v)(hk:K x st)
  (h:∀ σ w vs,Inv st σ w→RepArgs st σ w args vs→Calls P f vs w fun e w'=>e = .returned v∧Below w.heap.size w w'):ACalls P f args K st:=by
 intro σ w vs hI hR;refine (h σ w vs hI hR).mono ?_;rintro e w' ⟨rfl,hb⟩;exact⟨v,x,st,σ,rfl,hk,cG hI hb,hv _ _ _,Wx hI hb⟩
theorem ug:∀ l:List Tx,Lib.join l [32]=qO l
 | []=>rfl
 | [a]=>by simp[Lib.join_one,qO]
 | a::b::r=>by
  have h:=ug (b::r);rw[Lib.join_cons] at h ⊢;show a++(32::b++Lib.joinTail [32] r)=a++32::qO (b::r);rw[←h];rfl
theorem fK{st:St}{σ:Sig}{w:World}{x y:SV}{vs:Array Value}(hR:RepArgs st σ w [x,y] vs):∃ u v,vs=#[u,v]∧Rep st σ w x u∧Rep st σ w y v:=by
 have h1:=hR.1;simp only[xlC,xlN] at h1;refine⟨vs.getD 0 undef,vs.getD 1 undef,?_,by simpa using hR.2 0 (by simp),by simpa using hR.2 1 (by simp)⟩;apply Array.ext
 ·simpa using h1
 ·intro i hi hj;simp only[xsA,xlC,xlN] at hj;match i with
  | 0=>simp[Array.getD,hi]
  | 1=>simp[Array.getD,hi]
  | i+2=>omega
theorem zy{st:St}{K:SV→St→Prop}{x:SV}(hi:Ids st.length (norm x)=True)(hk:K (norm x) st):Fu st K x st:=by
 have:=zF (ex:=[]) hi hk;rwa[xaN] at this
end Go.AL
namespace Go.Proofs
open Go Go.AL Tryz Go.Shelf Go.RowKit
def Tryz.lays156_ren:Go.Shelf.Ren:=⟨fun | 156=>40 | 165=>61 | 166=>62 | 169=>63 | 240=>87 | 241=>88 | 276=>111 | 277=>112 | n=>n,fun | 31=>23 | 9=>9 | 3=>3 | 4=>4 | 0=>0 | 20=>20 | 72=>79 | 76=>83 | 70=>76 | 37=>77 | 75=>82 | 127=>99 | 164=>113 | 5=>5 | 80=>85 | n=>n,fun | n=>n⟩
theorem Tryz.lays156:Go.Proofs.Lays.n156 prog Tryz.lays156_ren:={
 mixed:=by kernel_rfl
 f156:=func40.trans (congrArg some (by kernel_rfl))
 f165:=func61.trans (congrArg some (by kernel_rfl))
 f166:=func62.trans (congrArg some (by kernel_rfl))
 f169:=func63.trans (congrArg some (by kernel_rfl))
 f240:=func87.trans (congrArg some (by kernel_rfl))
 f241:=func88.trans (congrArg some (by kernel_rfl))
 f276:=func111.trans (congrArg some (by kernel_rfl))
 f277:=func112.trans (congrArg some (by kernel_rfl))
 t0:=Tryz.underlying0
 a0:=Tryz.isAgg0
 z0:=Tryz.sizeOf0
 v0:=Tryz.zeroValue0
 t3:=Tryz.underlying3
 a3:=Tryz.isAgg3
 z3:=Tryz.sizeOf3
 v3:=Tryz.zeroValue3
 t4:=Tryz.underlying4
 a4:=Tryz.isAgg4
 z4:=Tryz.sizeOf4
 v4:=Tryz.zeroValue4
 t9:=Tryz.underlying9
 a9:=Tryz.isAgg9
 z9:=Tryz.sizeOf9
 v9:=Tryz.zeroValue9
 t20:=Tryz.underlying20
 a20:=Tryz.isAgg20
 z20:=Tryz.sizeOf20
 v20:=Tryz.zeroValue20
 t31:=Tryz.underlying23
 a31:=Tryz.isAgg23
 z31:=Tryz.sizeOf23
 v31:=Tryz.zeroValue23
 t37:=Tryz.underlying77
 a37:=Tryz.isAgg77
 z37:=Tryz.sizeOf77
 v37:=Tryz.zeroValue77
 t70:=Tryz.underlying76
 a70:=Tryz.isAgg76
 z70:=Tryz.sizeOf76
 v70:=Tryz.zeroValue76
 t72:=Tryz.underlying79
 a72:=Tryz.isAgg79
 z72:=Tryz.sizeOf79
 v72:=Tryz.zeroValue79
 t75:=Tryz.underlying82
 a75:=Tryz.isAgg82
 z75:=Tryz.sizeOf82
 v75:=Tryz.zeroValue82
 t76:=Tryz.underlying83
 a76:=Tryz.isAgg83
 z76:=Tryz.sizeOf83
 v76:=Tryz.zeroValue83
 t127:=Tryz.underlying99
 a127:=Tryz.isAgg99
 z127:=Tryz.sizeOf99
 v127:=Tryz.zeroValue99
 t164:=Tryz.underlying113
 a164:=Tryz.isAgg113
 z164:=Tryz.sizeOf113
 v164:=Tryz.zeroValue113 }
theorem Tryz.Builder_Extra_156:Builder.Extra prog Tryz.lays156_ren:={
 sizeBuilder:=by kernel_rfl
 liesBuilder:=by kernel_rfl
 t5:=Tryz.underlying5
 a5:=Tryz.isAgg5
 z5:=Tryz.sizeOf5
 v5:=Tryz.zeroValue5
 infoByte:=by kernel_rfl
 cellsByte:=by kernel_rfl
 sizeByte:=by kernel_rfl
 neB5:=by decide }
theorem AO{m:Go.AL.Mode}{l:List Tx}(h0:l≠[])(hn:l.length≤1000000)(hl:(qO l).length≤140737488355328){K:SV→St→Prop}{st:St}(hk:K (.sc (.string (ba (qO l)))) st) :
  ACalls prog 40 [.slice m 1 (l.map qc),.sc (.string (ba [32]))] K st:=by
 refine jR (v :=.string (ba (qO l))) (fun _ _ _ =>.sc _) hk fun σ w vs hI hR=>?_;obtain⟨u,v,rfl,h1,h2⟩:=fK hR;have hv:=qD h2;subst hv;generalize hx:SV.slice m 1 (l.map qc)=x at h1;cases h1 with
 | nil=>simp only[SV.slice.injEq] at hx;exact absurd (by simpa using hx.2.2) h0
 | any=>cases hx
 | sc=>cases hx
 | ref=>cases hx
 | ptr=>cases hx
 | func=>cases hx
 | agg=>cases hx
 | tuple=>cases hx
 | gd=>cases hx
 | slc=>cases hx
 | mp=>cases hx
 | stamp=>cases hx
 | arr=>cases hx
 | aptr=>cases hx
 | slice m z l' a cap vals hcap hsp hz hc hr hm =>
  simp only[SV.slice.injEq] at hx;obtain⟨rfl,rfl,rfl⟩:=hx;have hlen:(l.map qc).length=l.length:=by simp
  obtain⟨b,o,sp⟩:=a;have hsp':sp=none:=hsp (by simpa using h0);subst hsp';have hpos:0<l.length:=List.length_pos_iff.2 h0;have hcell:∀ (j:Nat) x,(l.map ba)[j]?=some x→w.cell? ⟨b,o+j,none⟩=some (.string x):=by
   intro j x hj;rw[List.getElem?_map] at hj;cases hlj:l[j]? with
   | none=>rw[hlj] at hj;cases hj
   | some y =>
    rw[hlj] at hj;simp only[xmS,xsJ] at hj;subst hj;have hlt:j<l.length:=(List.getElem?_eq_some_iff.1 hlj).1;have c1:=(hc j 0 (by simpa using hlt) (by omega)).1;have c2:=hr j 0 (by simpa using hlt) (by omega);rw[Wr hlt] at c2;have c3:=qD c2;have hy:l[j]=y:=(List.getElem?_eq_some_iff.1 hlj).2;rw[hy] at c3;simp only[Nat.mul_one,Nat.add_zero] at c1;rw[c1,c3]
  have hb:b<w.heap.size:=by
   have:=(hc 0 0 (by simpa using hpos) (by omega)).1;unfold World.cell? at this;cases hbb:w.heap[b]? with
   | none=>simp[hbb] at this
   | some y=>exact z8 hbb
  have hmap:(l.map ba).map (fun x=>x.data.toList)=l:=by simp[Function.comp_def]
  have hJ:Lib.join ((l.map ba).map (fun x=>x.data.toList)) (ba [32]).data.toList=qO l:=by rw[hmap];exact ug l
  have:=Any.strings_Join Tryz.lays156 Tryz.Builder_Extra_156 b o cap (l.map ba) (ba [32]) w hcell hb (by simp;omega) (by simpa using hcap) (by rw[hJ];exact hl);rw[hJ,xlM] at this;rw[xlM];exact this
theorem QZ{m:Go.AL.Mode}{l:List Tx}(h0:l≠[])(hn:l.length≤1000000){r:Tx}(hr:qO l=r)(hl:r.length≤140737488355328){K:SV→St→Prop}{st:St}(hk:K (.sc (.string (ba r))) st):ACalls prog 26 [.slice m 1 (l.map qc)] K st:=by
 subst hr;refine zd [] func26 rfl results26 ntmps26 ?_;simp only[go_sem];refine AO h0 hn hl ?_;simp only[go_sem];exact zy (zi _ _) hk
open Go Go.AL Tryz
theorem Xg{k:Int}{r:Tx}(hr:qX k=r){K:SV→St→Prop}{st:St}(hk:K (.sc (.string (ba r))) st):ACalls prog 65 [.sc (.int .i64 k)] K st:=by
 subst hr;refine zd [] func65 rfl results65 ntmps65 ?_;unfold qX at hk;simp only[go_sem,beq_iff_eq,beq_eq_false_iff_ne];repeat' (first | (simp[*] at hk;exact zy (zi _ _) hk) | (with_reducible apply And.intro) <;> intro hc)
theorem sD{n:Nd}{r:Bool}(hr:qg n=r){K:SV→St→Prop}{st:St}(hk:K (.sc (.bool r)) st):ACalls prog 41 [zq n] K st:=by
 refine zd [] func41 rfl results41 ntmps41 ?_;unfold qg at hr;simp (maxSteps:=2000000) only[go_sem,za,xlM,beq_iff_eq,beq_eq_false_iff_ne];have e3:decide (3≤(n.kids.length:Int))=decide (3≤n.kids.length):=by rw[decide_eq_decide];omega
 have e2:decide (2≤(n.kids.length:Int))=decide (2≤n.kids.length):=by rw[decide_eq_decide];omega
 have e1:decide (1≤(n.kids.length:Int))=decide (1≤n.kids.length):=by rw[decide_eq_decide];omega
 simp only[e3,e2,e1];repeat' (first | (exfalso;contradiction) | (simp[*] at hr;subst hr;exact zy (zi _ _) hk) | (with_reducible apply And.intro) <;> intro hc)
theorem D3{n:Nd}{r:Int}(hr:qZ n=r){K:SV→St→Prop}{st:St}(hk:K (.sc (.int .i64 r)) st):ACalls prog 44 [zq n] K st:=by
 subst hr;refine zd [] func44 rfl results44 ntmps44 ?_;unfold qZ ZV at hk;simp only[go_sem,za,xlM,beq_iff_eq,beq_eq_false_iff_ne];have e0:decide (0<(n.kids.length:Int))=decide (0<n.kids.length):=by rw[decide_eq_decide];omega
 simp only[e0,decide_eq_true_eq,decide_eq_false_iff_not];repeat' (first | (exfalso;contradiction) | (simp[*] at hk;exact zy (zi _ _) hk) | (refine Xg rfl ?_;simp only[go_sem,QH,Bool.not_eq_true',Bool.not_eq_false',beq_iff_eq,beq_eq_false_iff_ne,ne_eq]) | (with_reducible apply And.intro) <;> intro hc)
end Go.Proofs
namespace Go.AL
theorem HO(T:Nd→Int→Tx)(lo:Int):∀ (l:List Nd) (w:Tx),w.length≤(X2 T lo w l).length
 | [],w=>Nat.le_refl _
 | k::r,w=>by
  have h:=HO T lo r (qO [w,zj T k 0 lo]);rw[Zf] at h;show _≤(X2 T lo _ r).length;omega
theorem jE(T:Nd→Int→Tx):∀ (l:List Nd) (w:Tx),w.length≤(Yr T w l).length
 | [],w=>Nat.le_refl _
 | [a],w=>Nat.le_refl _
 | a::b::r,w=>by
  have h:=jE T r (w++qO [[32,124],T a 7,[45,62],zj T b 7 7]);rw[xlA] at h;show _≤(Yr T _ r).length;omega
end Go.AL
namespace Go.Proofs
open Go Go.AL Tryz
def TxC(d:Nat):Prop:=∀ (n:Nd) (lo:Int) (r:Tx),Dep d n→Fit n→zo d n lo=r→r.length≤140737488355328→∀ (K:SV→St→Prop) (st:St),K (.sc (.string (ba r))) st→ACalls prog 45 [zq n,.sc (.int .i64 lo)] K st
theorem TxC.agg{d:Nat}(hT:TxC d){n:Nd}{lo:Int}{r:Tx}(hd:Dep d n)(hf:Fit n)(hr:zo d n lo=r)(hl:r.length≤140737488355328){K:SV→St→Prop}{st:St}(hk:K (.sc (.string (ba r))) st) :
  ACalls prog 45 [.agg [.sc (.int .i64 n.kind),.sc (.string (ba n.text)),.sc (.int .i64 n.num),.sc (.int .i64 n.pos),.slice .imm 1 (n.names.map qc),.slice .imm 6 (n.kids.map zq)],.sc (.int .i64 lo)] K st:=by
 have:=hT n lo r hd hf hr hl K st hk;rw[qG] at this;exact this
theorem vh{d:Nat}(hT:TxC d){n:Nd}(hd:Dep d n)(hf:Fit n){m lo:Int}{r:Tx}(hr:zj (zo d) n m lo=r)(hl:r.length≤140737488355328){K:SV→St→Prop}{st:St}(hk:K (.sc (.string (ba r))) st) :
  ACalls prog 28 [zq n,.sc (.int .i64 m),.sc (.int .i64 lo)] K st:=by
 refine zd [] func28 rfl results28 ntmps28 ?_;unfold zj at hr;by_cases c:m<qZ n∨n.kind=5∧m=1
 ·rw[if_pos c] at hr;have hl1:(zo d n 7).length≤140737488355328:=by rw[←hr,Zc] at hl;omega
  by_cases c1:m<qZ n
  ·have b1:decide (m<qZ n)=true:=by simp[c1]
   simp only[go_sem];refine D3 rfl ?_;simp only[go_sem,za,b1];refine hT.agg hd hf rfl hl1 ?_;simp only[go_sem];refine QZ (l:=[[40],zo d n 7,[41]]) (by simp) (by simp) hr hl ?_;simp only[go_sem];exact zy (zi _ _) hk
  ·have b1:decide (m<qZ n)=false:=by simp[c1]
   have b2:(n.kind==5)=true:=by have:=c.resolve_left c1;simp[this.1]
   have b3:(m==1)=true:=by have:=c.resolve_left c1;simp[this.2]
   simp only[go_sem];refine D3 rfl ?_;simp only[go_sem,za,b1,b2,b3];refine hT.agg hd hf rfl hl1 ?_;simp only[go_sem];refine QZ (l:=[[40],zo d n 7,[41]]) (by simp) (by simp) hr hl ?_;simp only[go_sem];exact zy (zi _ _) hk
 ·rw[if_neg c] at hr;have b1:decide (m<qZ n)=false:=by simp only[decide_eq_false_iff_not];exact fun x=>c (.inl x)
  by_cases c2:n.kind=5
  ·have b2:(n.kind==5)=true:=by simp[c2]
   have b3:(m==1)=false:=by simp;exact fun x=>c (.inr ⟨c2,x⟩)
   simp only[go_sem];refine D3 rfl ?_;simp only[go_sem,za,b1,b2,b3];refine hT.agg hd hf hr hl ?_;simp only[go_sem];exact zy (zi _ _) hk
  ·have b2:(n.kind==5)=false:=by simp[c2]
   simp only[go_sem];refine D3 rfl ?_;simp only[go_sem,za,b1,b2];refine hT.agg hd hf hr hl ?_;simp only[go_sem];exact zy (zi _ _) hk
theorem jl{d:Nat}(hT:TxC d){l:List Nd}(hd:∀ c∈l,Dep d c)(hf:∀ c∈l,Fit c)(hn:l.length≤100000){w:Tx}{lo:Int}{r:Tx}(hr:X2 (zo d) lo w l=r)(hl:r.length≤140737488355328){K:SV→St→Prop}{st:St}(hk:K (.sc (.string (ba r))) st) :
  ACalls prog 66 [.sc (.string (ba w)),.slice .imm 6 (l.map zq),.sc (.int .i64 lo)] K st:=by
 refine zd [] func66 rfl results66 ntmps66 ?_;simp only[go_sem,xlM];refine zx [] (fun k env s=>∃ (i:Nat) (v:Tx) (ex:St),k+i=l.length∧X2 (zo d) lo v (l.drop i)=r∧env=[.sc (.string (ba v)),.slice .imm 6 (l.map zq),.sc (.int .i64 lo),.any,.any,.any,.any,.any,.any,.slice .imm 6 (l.map zq),.sc (.int .i64 l.length),.sc (.int .i64 i),.any,.any,.any,.any,.any,.any,.any,.any,.any,.any,.any]∧s=st++ex) (n:=l.length) ?_ ⟨0,w,[],by omega,hr,rfl,by simp⟩ ?_
 ·exact qu
 rintro k env s ⟨i,v,ex,hi,hv,rfl,rfl⟩;by_cases hlt:i<l.length
 ·have c2:decide ((i:Int)<(l.length:Int))=true:=by simp;omega
  have w1:IntKind.i64.wrap ((i:Int)+1)=((i+1:Nat):Int):=by rw[IntWalk.i64_in _ (by omega)];rfl
  have g1:=q7 hlt;rw[List.drop_eq_getElem_cons hlt] at hv;have hv:X2 (zo d) lo (qO [v,zj (zo d) l[i] 0 lo]) (l.drop (i+1))=r:=hv;have hle:=HO (zo d) lo (l.drop (i+1)) (qO [v,zj (zo d) l[i] 0 lo]);rw[hv] at hle;have hle2:=hle;rw[Zf] at hle2;simp only[go_sem,c2,w1,xlM,g1];refine⟨by omega,?_⟩;refine vh hT (hd _ (List.getElem_mem hlt)) (hf _ (List.getElem_mem hlt)) rfl (by omega) ?_;simp only[go_sem,w1];refine QZ (l:=[v,zj (zo d) l[i] 0 lo]) (by simp) (by simp) rfl (by omega) ?_;simp only[go_sem,w1];refine⟨k-1,_,by omega,?_,i+1,_,_,by omega,hv,rfl,rfl⟩;exact qu
 ·have c2:decide ((i:Int)<(l.length:Int))=false:=by simp;omega
  rw[List.drop_of_length_le (by omega)] at hv;have hv:v=r:=hv;subst hv;simp only[go_sem,c2];exact zF (zi _ _) hk
end Go.Proofs
namespace Go.AL
theorem qf{d:Nat}{n:Nd}(hd:Dep (d+1) n){i:Nat}(h:i<n.kids.length):Dep d (kid n i):=by
 unfold kid;rw[xgE,List.getElem?_eq_getElem h];exact hd.kids _ (List.getElem_mem h)
theorem qe{n:Nd}(h:Fit n){i:Nat}(hi:i<n.kids.length):Fit (kid n i):=by
 unfold kid;rw[xgE,List.getElem?_eq_getElem hi];exact h.kids.1 _ (List.getElem_mem hi)
theorem zJ{st:St}{v:Value}:mS st (.sc v) (.sc v) st:=⟨⟨[],by simp⟩,.sc _,.inl rfl⟩
theorem zP(a b:Tx):ba a++ba b=ba (a++b):=by
 apply ByteArray.ext;simp[ba]
end Go.AL
namespace Go.Proofs
open Go Go.AL Tryz
theorem qH{n:Nd}{i:Nat}(h:i<n.kids.length):(n.kids.map zq).getD i .any=zq (kid n i):=by
 rw[q7 h];unfold kid;rw[xgE,List.getElem?_eq_getElem h];rfl
theorem Zl{d:Nat}(hT:TxC d){n:Nd}(hd:Dep d n)(hf:Fit n){m lo:Int}{r:Tx}(hr:zj (zo d) n m lo=r)(hl:r.length≤140737488355328){K:SV→St→Prop}{st:St}(hk:K (.sc (.string (ba r))) st) :
  ACalls prog 28 [.agg [.sc (.int .i64 n.kind),.sc (.string (ba n.text)),.sc (.int .i64 n.num),.sc (.int .i64 n.pos),.slice .imm 1 (n.names.map qc),.slice .imm 6 (n.kids.map zq)],.sc (.int .i64 m),.sc (.int .i64 lo)] K st:=by
 have:=vh hT hd hf hr hl hk;rw[qG] at this;exact this
theorem Ck{d:Nat}(hT:TxC d){n:Nd}(hd:Dep (d+1) n)(hf:Fit n)(h1:0<n.kids.length){w:Tx}{lo:Int}{r:Tx}(hr:Qm (zo d) w n lo=r)(hl:r.length≤140737488355328){K:SV→St→Prop}{st:St}(hk:K (.sc (.string (ba r))) st) :
  ACalls prog 42 [.sc (.string (ba w)),zq n,.sc (.int .i64 lo)] K st:=by
 refine zd [] func42 rfl results42 ntmps42 ?_;unfold Qm at hr;have hl1:=hl;rw[←hr,ZU] at hl1;have g0:=qH h1;have hh:=hf.kids.2.1;simp only[go_sem,za];refine zC [] mixed rfl ?_;try simp only[go_sem,za,xlM,Int.reduceToNat,g0]
 refine⟨by omega,?_⟩;rw[zt];refine⟨.sc (.string (ba (zj (zo d) (kid n 0) lo lo))),?_,?_⟩
 ·simp only[go_sem];refine Zl hT (qf hd h1) (qe hf h1) rfl (by omega) ?_;exact zJ
 try simp only[go_sem,za,xlM,Int.reduceToNat]
 rw[zt];refine⟨.slice .full 1 ([w,n.text,[61],zj (zo d) (kid n 0) lo lo].map qc),?_,?_⟩
 ·simp only[go_sem];exact⟨⟨[],by simp⟩,Z1 _ .full (.inr rfl) _ [w,n.text,[61],zj (zo d) (kid n 0) lo lo],.inl rfl⟩
 try simp only[go_sem,za,xlM,Int.reduceToNat]
 rw[zt];refine⟨.sc (.string (ba (r))),?_,?_⟩
 ·simp only[go_sem];refine QZ (l:=[w,n.text,[61],zj (zo d) (kid n 0) lo lo]) (by simp) (by simp) hr hl ?_;exact zJ
 try simp only[go_sem,za,xlM,Int.reduceToNat]
 exact zy (zi _ _) hk
theorem tF{d:Nat}(hT:TxC d){n:Nd}(hd:Dep (d+1) n)(hf:Fit n)(h2:1<n.kids.length){a b:Int}{lo:Int}{r:Tx}(hr:qO [zj (zo d) (kid n 0) a lo,n.text,zj (zo d) (kid n 1) b lo]=r)(hl:r.length≤140737488355328)
  (hs:((n.text=[61]∨n.text=[60])∧a=4∧b=4)∨(n.text≠[61]∧n.text≠[60]∧(n.text=[43]∨n.text=[45]∨n.text=[94])∧a=4∧b=3)∨(n.text≠[61]∧n.text≠[60]∧n.text≠[43]∧n.text≠[45]∧n.text≠[94]∧a=3∧b=2)) {K:SV→St→Prop} {st:St} (hk:K (.sc (.string (ba r))) st) :
  ACalls prog 70 [zq n,.sc (.int .i64 lo)] K st:=by
 refine zd [] func70 rfl results70 ntmps70 ?_;have hl1:=hl;rw[←hr,Zc] at hl1;have h1:0<n.kids.length:=by omega
 have g0:=qH h1;have g1:=qH h2;have hh:=hf.kids.2.1;have hb:∀ x:Tx,n.text=x→(n.text==x)=true:=fun x h=>by simp[h]
 have hn:∀ x:Tx,n.text≠x→(n.text==x)=false:=fun x h=>by simp[h]
 rcases hs with⟨hs,rfl,rfl⟩ | ⟨n1,n2,hs,rfl,rfl⟩ | ⟨n1,n2,n3,n4,n5,rfl,rfl⟩
 ·by_cases c1:n.text=[61]
  ·have b1:=hb _ c1;simp only[go_sem,za,b1];refine zC [] mixed rfl ?_;try simp only[go_sem,za,xlM,Int.reduceToNat,g0,g1]
   refine⟨by omega,?_⟩;rw[zt];refine⟨.sc (.string (ba (zj (zo d) (kid n 0) 4 lo))),?_,?_⟩
   ·simp only[go_sem];refine Zl hT (qf hd h1) (qe hf h1) rfl (by omega) ?_;exact zJ
   try simp only[go_sem,za,xlM,Int.reduceToNat,g0,g1]
   refine⟨by omega,?_⟩;rw[zt];refine⟨.sc (.string (ba (zj (zo d) (kid n 1) 4 lo))),?_,?_⟩
   ·simp only[go_sem];refine Zl hT (qf hd h2) (qe hf h2) rfl (by omega) ?_;exact zJ
   try simp only[go_sem,za,xlM,Int.reduceToNat]
   rw[zt];refine⟨.slice .full 1 ([zj (zo d) (kid n 0) 4 lo,n.text,zj (zo d) (kid n 1) 4 lo].map qc),?_,?_⟩
   ·simp only[go_sem];exact⟨⟨[],by simp⟩,Z1 _ .full (.inr rfl) _ [zj (zo d) (kid n 0) 4 lo,n.text,zj (zo d) (kid n 1) 4 lo],.inl rfl⟩
   try simp only[go_sem,za,xlM,Int.reduceToNat]
   rw[zt];refine⟨.sc (.string (ba (r))),?_,?_⟩
   ·simp only[go_sem];refine QZ (l:=[zj (zo d) (kid n 0) 4 lo,n.text,zj (zo d) (kid n 1) 4 lo]) (by simp) (by simp) hr hl ?_;exact zJ
   try simp only[go_sem,za,xlM,Int.reduceToNat]
   exact zy (zi _ _) hk
  ·have b1:=hn _ c1;have b2:=hb _ (hs.resolve_left c1);simp only[go_sem,za,b1,b2];refine zC [] mixed rfl ?_;try simp only[go_sem,za,xlM,Int.reduceToNat,g0,g1]
   refine⟨by omega,?_⟩;rw[zt];refine⟨.sc (.string (ba (zj (zo d) (kid n 0) 4 lo))),?_,?_⟩
   ·simp only[go_sem];refine Zl hT (qf hd h1) (qe hf h1) rfl (by omega) ?_;exact zJ
   try simp only[go_sem,za,xlM,Int.reduceToNat,g0,g1]
   refine⟨by omega,?_⟩;rw[zt];refine⟨.sc (.string (ba (zj (zo d) (kid n 1) 4 lo))),?_,?_⟩
   ·simp only[go_sem];refine Zl hT (qf hd h2) (qe hf h2) rfl (by omega) ?_;exact zJ
   try simp only[go_sem,za,xlM,Int.reduceToNat]
   rw[zt];refine⟨.slice .full 1 ([zj (zo d) (kid n 0) 4 lo,n.text,zj (zo d) (kid n 1) 4 lo].map qc),?_,?_⟩
   ·simp only[go_sem];exact⟨⟨[],by simp⟩,Z1 _ .full (.inr rfl) _ [zj (zo d) (kid n 0) 4 lo,n.text,zj (zo d) (kid n 1) 4 lo],.inl rfl⟩
   try simp only[go_sem,za,xlM,Int.reduceToNat]
   rw[zt];refine⟨.sc (.string (ba (r))),?_,?_⟩
   ·simp only[go_sem];refine QZ (l:=[zj (zo d) (kid n 0) 4 lo,n.text,zj (zo d) (kid n 1) 4 lo]) (by simp) (by simp) hr hl ?_;exact zJ
   try simp only[go_sem,za,xlM,Int.reduceToNat]
   exact zy (zi _ _) hk
 ·have b1:=hn _ n1;have b2:=hn _ n2;by_cases c3:n.text=[43]
  ·have b3:=hb _ c3;simp only[go_sem,za,b1,b2,b3];refine zC [] mixed rfl ?_;try simp only[go_sem,za,xlM,Int.reduceToNat,g0,g1]
   refine⟨by omega,?_⟩;rw[zt];refine⟨.sc (.string (ba (zj (zo d) (kid n 0) 4 lo))),?_,?_⟩
   ·simp only[go_sem];refine Zl hT (qf hd h1) (qe hf h1) rfl (by omega) ?_;exact zJ
   try simp only[go_sem,za,xlM,Int.reduceToNat,g0,g1]
   refine⟨by omega,?_⟩;rw[zt];refine⟨.sc (.string (ba (zj (zo d) (kid n 1) 3 lo))),?_,?_⟩
   ·simp only[go_sem];refine Zl hT (qf hd h2) (qe hf h2) rfl (by omega) ?_;exact zJ
   try simp only[go_sem,za,xlM,Int.reduceToNat]
   rw[zt];refine⟨.slice .full 1 ([zj (zo d) (kid n 0) 4 lo,n.text,zj (zo d) (kid n 1) 3 lo].map qc),?_,?_⟩
   ·simp only[go_sem];exact⟨⟨[],by simp⟩,Z1 _ .full (.inr rfl) _ [zj (zo d) (kid n 0) 4 lo,n.text,zj (zo d) (kid n 1) 3 lo],.inl rfl⟩
   try simp only[go_sem,za,xlM,Int.reduceToNat]
   rw[zt];refine⟨.sc (.string (ba (r))),?_,?_⟩
   ·simp only[go_sem];refine QZ (l:=[zj (zo d) (kid n 0) 4 lo,n.text,zj (zo d) (kid n 1) 3 lo]) (by simp) (by simp) hr hl ?_;exact zJ
   try simp only[go_sem,za,xlM,Int.reduceToNat]
   exact zy (zi _ _) hk
  ·have b3:=hn _ c3;have hs:=hs.resolve_left c3;by_cases c4:n.text=[45]
   ·have b4:=hb _ c4;simp only[go_sem,za,b1,b2,b3,b4];refine zC [] mixed rfl ?_;try simp only[go_sem,za,xlM,Int.reduceToNat,g0,g1]
    refine⟨by omega,?_⟩;rw[zt];refine⟨.sc (.string (ba (zj (zo d) (kid n 0) 4 lo))),?_,?_⟩
    ·simp only[go_sem];refine Zl hT (qf hd h1) (qe hf h1) rfl (by omega) ?_;exact zJ
    try simp only[go_sem,za,xlM,Int.reduceToNat,g0,g1]
    refine⟨by omega,?_⟩;rw[zt];refine⟨.sc (.string (ba (zj (zo d) (kid n 1) 3 lo))),?_,?_⟩
    ·simp only[go_sem];refine Zl hT (qf hd h2) (qe hf h2) rfl (by omega) ?_;exact zJ
    try simp only[go_sem,za,xlM,Int.reduceToNat]
    rw[zt];refine⟨.slice .full 1 ([zj (zo d) (kid n 0) 4 lo,n.text,zj (zo d) (kid n 1) 3 lo].map qc),?_,?_⟩
    ·simp only[go_sem];exact⟨⟨[],by simp⟩,Z1 _ .full (.inr rfl) _ [zj (zo d) (kid n 0) 4 lo,n.text,zj (zo d) (kid n 1) 3 lo],.inl rfl⟩
    try simp only[go_sem,za,xlM,Int.reduceToNat]
    rw[zt];refine⟨.sc (.string (ba (r))),?_,?_⟩
    ·simp only[go_sem];refine QZ (l:=[zj (zo d) (kid n 0) 4 lo,n.text,zj (zo d) (kid n 1) 3 lo]) (by simp) (by simp) hr hl ?_;exact zJ
    try simp only[go_sem,za,xlM,Int.reduceToNat]
    exact zy (zi _ _) hk
   ·have b4:=hn _ c4;have b5:=hb _ (hs.resolve_left c4);simp only[go_sem,za,b1,b2,b3,b4,b5];refine zC [] mixed rfl ?_;try simp only[go_sem,za,xlM,Int.reduceToNat,g0,g1]
    refine⟨by omega,?_⟩;rw[zt];refine⟨.sc (.string (ba (zj (zo d) (kid n 0) 4 lo))),?_,?_⟩
    ·simp only[go_sem];refine Zl hT (qf hd h1) (qe hf h1) rfl (by omega) ?_;exact zJ
    try simp only[go_sem,za,xlM,Int.reduceToNat,g0,g1]
    refine⟨by omega,?_⟩;rw[zt];refine⟨.sc (.string (ba (zj (zo d) (kid n 1) 3 lo))),?_,?_⟩
    ·simp only[go_sem];refine Zl hT (qf hd h2) (qe hf h2) rfl (by omega) ?_;exact zJ
    try simp only[go_sem,za,xlM,Int.reduceToNat]
    rw[zt];refine⟨.slice .full 1 ([zj (zo d) (kid n 0) 4 lo,n.text,zj (zo d) (kid n 1) 3 lo].map qc),?_,?_⟩
    ·simp only[go_sem];exact⟨⟨[],by simp⟩,Z1 _ .full (.inr rfl) _ [zj (zo d) (kid n 0) 4 lo,n.text,zj (zo d) (kid n 1) 3 lo],.inl rfl⟩
    try simp only[go_sem,za,xlM,Int.reduceToNat]
    rw[zt];refine⟨.sc (.string (ba (r))),?_,?_⟩
    ·simp only[go_sem];refine QZ (l:=[zj (zo d) (kid n 0) 4 lo,n.text,zj (zo d) (kid n 1) 3 lo]) (by simp) (by simp) hr hl ?_;exact zJ
    try simp only[go_sem,za,xlM,Int.reduceToNat]
    exact zy (zi _ _) hk
 ·have b1:=hn _ n1;have b2:=hn _ n2;have b3:=hn _ n3;have b4:=hn _ n4;have b5:=hn _ n5;simp only[go_sem,za,b1,b2,b3,b4,b5];refine zC [] mixed rfl ?_;try simp only[go_sem,za,xlM,Int.reduceToNat,g0,g1]
  refine⟨by omega,?_⟩;rw[zt];refine⟨.sc (.string (ba (zj (zo d) (kid n 0) 3 lo))),?_,?_⟩
  ·simp only[go_sem];refine Zl hT (qf hd h1) (qe hf h1) rfl (by omega) ?_;exact zJ
  try simp only[go_sem,za,xlM,Int.reduceToNat,g0,g1]
  refine⟨by omega,?_⟩;rw[zt];refine⟨.sc (.string (ba (zj (zo d) (kid n 1) 2 lo))),?_,?_⟩
  ·simp only[go_sem];refine Zl hT (qf hd h2) (qe hf h2) rfl (by omega) ?_;exact zJ
  try simp only[go_sem,za,xlM,Int.reduceToNat]
  rw[zt];refine⟨.slice .full 1 ([zj (zo d) (kid n 0) 3 lo,n.text,zj (zo d) (kid n 1) 2 lo].map qc),?_,?_⟩
  ·simp only[go_sem];exact⟨⟨[],by simp⟩,Z1 _ .full (.inr rfl) _ [zj (zo d) (kid n 0) 3 lo,n.text,zj (zo d) (kid n 1) 2 lo],.inl rfl⟩
  try simp only[go_sem,za,xlM,Int.reduceToNat]
  rw[zt];refine⟨.sc (.string (ba (r))),?_,?_⟩
  ·simp only[go_sem];refine QZ (l:=[zj (zo d) (kid n 0) 3 lo,n.text,zj (zo d) (kid n 1) 2 lo]) (by simp) (by simp) hr hl ?_;exact zJ
  try simp only[go_sem,za,xlM,Int.reduceToNat]
  exact zy (zi _ _) hk
theorem RH{d:Nat}(hT:TxC d){n:Nd}(hd:Dep (d+1) n)(hf:Fit n)(h2:1<n.kids.length){lo:Int}{r:Tx}(hr:fV (zo d) n lo=r)(hl:r.length≤140737488355328){K:SV→St→Prop}{st:St}(hk:K (.sc (.string (ba r))) st) :
  ACalls prog 70 [zq n,.sc (.int .i64 lo)] K st:=by
 unfold fV at hr;dsimp only at hr;by_cases c:n.text=[61]∨n.text=[60]
 ·have e:ZV n.text=5:=by unfold ZV;rw[if_pos c]
  rw[e] at hr;exact tF hT hd hf h2 (a:=4) (b:=4) hr hl (.inl ⟨c,rfl,rfl⟩) hk
 ·by_cases c2:n.text=[43]∨n.text=[45]∨n.text=[94]
  ·have e:ZV n.text=4:=by unfold ZV;rw[if_neg c,if_pos c2]
   rw[e] at hr;exact tF hT hd hf h2 (a:=4) (b:=3) hr hl (.inr (.inl ⟨fun h=>c (.inl h),fun h=>c (.inr h),c2,rfl,rfl⟩)) hk
  ·have e:ZV n.text=3:=by unfold ZV;rw[if_neg c,if_neg c2]
   rw[e] at hr;exact tF hT hd hf h2 (a:=3) (b:=2) hr hl (.inr (.inr ⟨fun h=>c (.inl h),fun h=>c (.inr h),fun h=>c2 (.inl h),fun h=>c2 (.inr (.inl h)),fun h=>c2 (.inr (.inr h)),rfl,rfl⟩)) hk
theorem Cc{d:Nat}(hT:TxC d){l:List Nd}(hd:∀ c∈l,Dep d c)(hf:∀ c∈l,Fit c)(hn:l.length≤100000){r:Tx}(hr:Yr (zo d) [] l=r)(hl:r.length≤140737488355328){K:SV→St→Prop}{st:St}(hk:K (.sc (.string (ba r))) st) :
  ACalls prog 69 [.slice .imm 6 (l.map zq)] K st:=by
 refine zd [] func69 rfl results69 ntmps69 ?_;simp only[go_sem,xlM];refine zx [] (fun k env s=>∃ (i:Nat) (v:Tx),k+i=l.length+2∧Yr (zo d) v (l.drop i)=r∧env=[.slice .imm 6 (l.map zq),.any,.any,.sc (.string (ba v)),.sc (.int .i64 i),.any,.any,.any,.any,.any,.any,.any,.any,.any,.any,.any,.any,.any,.any,.any,.any,.any,.any,.any,.any,.any,.any,.any]∧s=st) (n:=l.length+2) ?_ ⟨0,[],by omega,hr,rfl,rfl⟩ ?_
 ·exact qu
 rintro k env s ⟨i,v,hi,hv,rfl,rfl⟩;have w1:IntKind.i64.wrap ((i:Int)+1)=((i+1:Nat):Int):=by rw[IntWalk.i64_in _ (by omega)];rfl
 by_cases hlt:i+1<l.length
 ·have c2:decide (((i+1:Nat):Int)<(l.length:Int))=true:=by simp;omega
  have w2:IntKind.i64.wrap ((i:Int)+2)=((i+2:Nat):Int):=by rw[IntWalk.i64_in _ (by omega)];rfl
  have hlt0:i<l.length:=by omega
  have g0:=q7 hlt0;have g1:=q7 hlt;rw[List.drop_eq_getElem_cons hlt0,List.drop_eq_getElem_cons hlt] at hv;have hv:Yr (zo d) (v++qO [[32,124],zo d l[i] 7,[45,62],zj (zo d) l[i+1] 7 7]) (l.drop (i+1+1))=r:=hv;have hle:=jE (zo d) (l.drop (i+1+1)) (v++qO [[32,124],zo d l[i] 7,[45,62],zj (zo d) l[i+1] 7 7]);rw[hv,xlA] at hle;have hle2:=hle;rw[ZU] at hle2;simp only[go_sem,c2,w1,xlM];refine zC [] mixed rfl ?_;try simp only[go_sem,za,xlM,Int.reduceToNat,g0,g1,w1]
  refine⟨by omega,?_⟩;rw[zt];refine⟨.sc (.string (ba (zo d l[i] 7))),?_,?_⟩
  ·simp only[go_sem];refine hT.agg (hd _ (List.getElem_mem hlt0)) (hf _ (List.getElem_mem hlt0)) rfl (by omega) ?_;exact zJ
  try simp only[go_sem,za,xlM,Int.reduceToNat,g0,g1,w1]
  refine⟨by omega,?_⟩;rw[zt];refine⟨.sc (.string (ba (zj (zo d) l[i+1] 7 7))),?_,?_⟩
  ·simp only[go_sem];refine Zl hT (hd _ (List.getElem_mem hlt)) (hf _ (List.getElem_mem hlt)) rfl (by omega) ?_;exact zJ
  try simp only[go_sem,za,xlM,Int.reduceToNat]
  rw[zt];refine⟨.slice .full 1 ([[32,124],zo d l[i] 7,[45,62],zj (zo d) l[i+1] 7 7].map qc),?_,?_⟩
  ·simp only[go_sem];exact⟨⟨[],by simp⟩,Z1 _ .full (.inr rfl) _ [[32,124],zo d l[i] 7,[45,62],zj (zo d) l[i+1] 7 7],.inl rfl⟩
  try simp only[go_sem,za,xlM,Int.reduceToNat]
  rw[zt];refine⟨.sc (.string (ba (qO [[32,124],zo d l[i] 7,[45,62],zj (zo d) l[i+1] 7 7]))),?_,?_⟩
  ·simp only[go_sem];refine QZ (l:=[[32,124],zo d l[i] 7,[45,62],zj (zo d) l[i+1] 7 7]) (by simp) (by simp) rfl (by omega) ?_;exact zJ
  try simp only[go_sem,za,xlM,Int.reduceToNat,w2,zP]
  refine⟨by simp;omega,k-2,_,by omega,?_,i+2,_,by omega,hv,rfl⟩;exact qu
 ·have c2:decide (((i+1:Nat):Int)<(l.length:Int))=false:=by simp;omega
  have hv:v=r:=by
   rw[←hv];by_cases h0:i<l.length
   ·rw[List.drop_eq_getElem_cons h0,List.drop_of_length_le (by omega)];rfl
   ·rw[List.drop_of_length_le (by omega)];rfl
  subst hv;simp only[go_sem,c2,w1,xlM];exact zy (zi _ _) hk
end Go.Proofs
