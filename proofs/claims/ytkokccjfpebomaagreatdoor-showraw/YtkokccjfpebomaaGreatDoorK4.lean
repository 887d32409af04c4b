/- whole, kind, begins, slices.Contains of texts. -/
import Derived.Test.YtkokccjfpebomaaGreatDoorN1
set_option linter.all false
set_option maxHeartbeats 4000000
set_option maxRecDepth 8000
namespace Go.Proofs
open Go Go.AL Tryz
theorem Ko{T:List Tk}(hT:T.length≤100000){pid:Nat}{e:PM Nd}(he:HC T pid 79 e):HC T pid 163 (Q4 T e):=by
 intro p r p' h K st hp hk;refine zA (zp [] func163 rfl results163 ntmps163 ?_);unfold Q4 at h;simp only[xoM,xpX,xpJ] at h;obtain⟨x,p1,h1,rfl,rfl⟩:=h;have y:=zI hp;unfold Qn at y;have y1:=zI (QV (p':=p1) hp);unfold Qn at y1;simp only[go_sem,y.1,y.2.1,y.2.2];refine W1 he rfl h1 (zh hp) ?_;unfold Qn;simp only[go_sem,zb hp,y.2.2,y1.1,y1.2.1,y1.2.2];exact Zw hk
theorem Wi{T:List Tk}{pid:Nat}{p:PS}{t:Tk}(h:zH T p=some t){K:SV→St→Prop}{st:St}(hp:KF T pid p st)(hk:K (.sc (.bool (qI t))) st):ACalls prog 153 [.ptr pid 0] K st:=by
 refine zd [] func153 rfl results153 ntmps153 ?_;unfold qI at hk;cases k1:t.kind==1
 ·cases k2:t.kind==2
  ·cases k3:t.kind==3
   ·cases k4:t.kind==4
    ·rw[k1,k2,k3,k4] at hk;cases b1:isT t [40]
     ·cases b2:isT t [114,101,116,114,121]
      ·cases b3:isT t [109,97,116,99,104]
       ·rw[b1,b2,b3] at hk;simp only[go_sem];refine qi h hp ?_;simp only[go_sem,k1,k2,k3,k4];refine ZG h (zu hp) ?_;simp only[go_sem,b1];first | (unfold zf;simp only[ze,zc,zl,xsS,xsZ,xgS,xgZ]) | skip
        refine ZG h (zu hp) ?_;simp only[go_sem,b1,b2];first | (unfold zf;simp only[ze,zc,zl,xsS,xsZ,xgS,xgZ]) | skip
        refine ZG h (zu hp) ?_;simp only[go_sem,b1,b2,b3];first | (unfold zf;simp only[ze,zc,zl,xsS,xsZ,xgS,xgZ]) | skip
        refine ZG h (zu hp) ?_;simp only[go_sem,b1,b2,b3];exact zF (zi _ _) hk
       ·rw[b1,b2,b3] at hk;simp only[go_sem];refine qi h hp ?_;simp only[go_sem,k1,k2,k3,k4];refine ZG h (zu hp) ?_;simp only[go_sem,b1];first | (unfold zf;simp only[ze,zc,zl,xsS,xsZ,xgS,xgZ]) | skip
        refine ZG h (zu hp) ?_;simp only[go_sem,b1,b2];first | (unfold zf;simp only[ze,zc,zl,xsS,xsZ,xgS,xgZ]) | skip
        refine ZG h (zu hp) ?_;simp only[go_sem,b1,b2,b3];exact zF (zi _ _) hk
      ·rw[b1,b2] at hk;simp only[go_sem];refine qi h hp ?_;simp only[go_sem,k1,k2,k3,k4];refine ZG h (zu hp) ?_;simp only[go_sem,b1];first | (unfold zf;simp only[ze,zc,zl,xsS,xsZ,xgS,xgZ]) | skip
       refine ZG h (zu hp) ?_;simp only[go_sem,b1,b2];exact zF (zi _ _) hk
     ·rw[b1] at hk;simp only[go_sem];refine qi h hp ?_;simp only[go_sem,k1,k2,k3,k4];refine ZG h (zu hp) ?_;simp only[go_sem,b1];exact zF (zi _ _) hk
    ·rw[k1,k2,k3,k4] at hk;simp only[go_sem];refine qi h hp ?_;simp only[go_sem,k1,k2,k3,k4];exact zF (zi _ _) hk
   ·rw[k1,k2,k3] at hk;simp only[go_sem];refine qi h hp ?_;simp only[go_sem,k1,k2,k3];exact zF (zi _ _) hk
  ·rw[k1,k2] at hk;simp only[go_sem];refine qi h hp ?_;simp only[go_sem,k1,k2];exact zF (zi _ _) hk
 ·rw[k1] at hk;simp only[go_sem];refine qi h hp ?_;simp only[go_sem,k1];exact zF (zi _ _) hk
theorem oM(n:Nat)(a b:Int):Ids n (Yi [.sc (.int .i64 a),.sc (.int .i64 b)])=True:=eq_true (.tuple _ (by
 intro i hi;match i with
 | 0=>exact .sc _
 | 1=>exact .sc _
 | i+2=>simp at hi;omega))
theorem Zh{s:Tx}{l:Tx}(h:¬ s=l):(s==l)=false:=by simp[h]
theorem KI{s:Tx}{l:Tx}(h:s=l):(s==l)=true:=by simp[h]
theorem ji{s:Tx}{K:SV→St→Prop}{st:St}(hk:K (.tuple [.sc (.int .i64 (qJ s).1),.sc (.int .i64 (qJ s).2)]) st):ACalls prog 151 [.sc (.string (ba s))] K st:=by
 refine zd [] func151 rfl results151 ntmps151 ?_;unfold qJ at hk;have hfin:∀ a b:Int,K (.tuple [.sc (.int .i64 a),.sc (.int .i64 b)]) st→Fu st K (Yi [.sc (.int .i64 a),.sc (.int .i64 b)]) st:=fun a b h=>by
  have:=zF (ex:=[]) (x:=Yi [.sc (.int .i64 a),.sc (.int .i64 b)]) (K:=K) (st:=st) (oM _ a b) h;rwa[xaN] at this
 by_cases e1:s=[112,114,105,110,116]
 ·rw[if_pos e1] at hk;simp only[go_sem,KI e1];exact hfin _ _ hk
 rw[if_neg e1] at hk;by_cases e2:s=[114,97,105,115,101]
 ·rw[if_pos e2] at hk;simp only[go_sem,Zh e1,KI e2];exact hfin _ _ hk
 rw[if_neg e2] at hk;by_cases e3:s=[115,112,97,119,110]
 ·rw[if_pos e3] at hk;simp only[go_sem,Zh e1,Zh e2,KI e3];exact hfin _ _ hk
 rw[if_neg e3] at hk;by_cases e4:s=[97,116,111,109,105,99,97,108,108,121]
 ·rw[if_pos e4] at hk;simp only[go_sem,Zh e1,Zh e2,Zh e3,KI e4];exact hfin _ _ hk
 rw[if_neg e4] at hk;by_cases e5:s=[116,118,97,114]
 ·rw[if_pos e5] at hk;simp only[go_sem,Zh e1,Zh e2,Zh e3,Zh e4,KI e5];exact hfin _ _ hk
 rw[if_neg e5] at hk;by_cases e6:s=[114,101,97,100]
 ·rw[if_pos e6] at hk;simp only[go_sem,Zh e1,Zh e2,Zh e3,Zh e4,Zh e5,KI e6];exact hfin _ _ hk
 rw[if_neg e6] at hk;by_cases e7:s=[119,114,105,116,101]
 ·rw[if_pos e7] at hk;simp only[go_sem,Zh e1,Zh e2,Zh e3,Zh e4,Zh e5,Zh e6,KI e7];exact hfin _ _ hk
 rw[if_neg e7] at hk;by_cases e8:s=[111,114,101,108,115,101]
 ·rw[if_pos e8] at hk;simp only[go_sem,Zh e1,Zh e2,Zh e3,Zh e4,Zh e5,Zh e6,Zh e7,KI e8];exact hfin _ _ hk
 rw[if_neg e8] at hk;simp only[go_sem,Zh e1,Zh e2,Zh e3,Zh e4,Zh e5,Zh e6,Zh e7,Zh e8];exact hfin _ _ hk
theorem zD{st:St}{K:SV→St→Prop}{x:SV}(hi:Ids st.length (norm x)=True)(hk:K (norm x) st):Fu st K x st:=by
 have:=zF (ex:=[]) hi hk;rwa[xaN] at this
theorem az{m:AL.Mode}{l:List Tx}(hl:l.length≤1000000){x:Tx}{K:SV→St→Prop}{st:St}(hk:∀ i:Int,(0≤i↔x∈l)→K (.sc (.int .i64 i)) st):ACalls prog 154 [.slice m 1 (l.map qc),.sc (.string (ba x))] K st:=by
 refine zd [] func154 rfl results154 ntmps154 ?_;simp only[go_sem];refine zx [] (fun k env s=>∃ j:Nat,k+j=l.length∧x ∉ l.take j∧env=[.slice m 1 (l.map qc),.sc (.string (ba x)),.any,.any,.any,.any,.any,.sc (.int .i64 l.length),.sc (.int .i64 j),.any,.any,.any,.any,.any,.any,.any,.any,.any,.any]∧s=st) (n:=l.length) ?_ ⟨0,by omega,by simp,rfl,rfl⟩ ?_
 ·exact qu
 rintro k env s ⟨j,hj,hx,rfl,rfl⟩;by_cases hlt:j<l.length
 ·have c1:decide ((j:Int)<(l.length:Int))=true:=by simp;omega
  have hg:(l.map qc).getD j .any=qc (l[j]):=by simp[xgE,hlt]
  have hw:IntKind.i64.wrap ((j:Int)+1)=((j+1:Nat):Int):=by rw[IntWalk.i64_in _ (by omega)];rfl
  cases hb:x==l[j] with
  | true =>
   simp only[go_sem,c1,hg,qc,hb];exact⟨by simp[hlt],zD (zi _ _) (hk j ⟨fun _=>(beq_iff_eq.1 hb)▸List.getElem_mem hlt,fun _=>by omega⟩)⟩
  | false =>
   simp only[go_sem,c1,hg,qc,hb,hw];refine⟨by simp[hlt],k-1,_,by omega,?_,j+1,by omega,?_,rfl⟩
   ·exact qu
   ·rw[List.take_succ_eq_append_getElem hlt,List.mem_append];rintro (h | h)
    ·exact hx h
    ·simp at h;simp[h] at hb
 ·have c1:decide ((j:Int)<(l.length:Int))=false:=by simp;omega
  simp only[go_sem,c1];exact zD (zi _ _) (hk (-1) (by rw[List.take_of_length_le (by omega)] at hx;simp[hx]))
theorem GO{m:AL.Mode}{l:List Tx}(hl:l.length≤1000000){x:Tx}{K:SV→St→Prop}{st:St}(hk:K (.sc (.bool (decide (x∈l)))) st):ACalls prog 141 [.slice m 1 (l.map qc),.sc (.string (ba x))] K st:=by
 refine zd [] func141 rfl results141 ntmps141 ?_;simp only[go_sem];refine az hl fun i hi=>?_;have c1:decide ((0:Int)≤i)=decide (x∈l):=by simp[hi]
 simp only[go_sem,ge_iff_le,c1];exact zD (zi _ _) hk
end Go.Proofs
namespace Go.AL
variable {P:Program}
section
variable {M:List Nat} {ds:List (Option Tmp)} {ks:List Nat} {tbl:List (List Nat×St)} {i:Nat} {Ls:List (List (List Nat))} {o:Oper} {r:List Oper} {env:List SV} {K:List SV→Prop} {c c2 c3 c4:List Nat}
theorem FP(hk:ks.contains i=false)(X:SV)(h1:ZE P M ds o env (Yf tbl c) (fun x=>x=X))(h2:ZE P M ds o env (Yf tbl c2) (fun x=>x=X))(h3:ZE P M ds o env (Yf tbl c3) (fun x=>x=X))(h4:ZE P M ds o env (Yf tbl c4) (fun x=>x=X))
  (h:JS P M ds ks tbl (i+1) Ls r (ZM env o.dst X) K):JS P M ds ks tbl i ([c,c2,c3,c4]::Ls) (o::r) env K:=by
 refine⟨X,?_,h⟩;rw[if_neg (by rw[hk];decide)];intro x hx;simp only[List.mem_cons,List.not_mem_nil,or_false] at hx;rcases hx with rfl | rfl | rfl | rfl
 ·exact h1
 ·exact h2
 ·exact h3
 ·exact h4
end
theorem Hw{k a:Int}{t:Tx}{x:SV}(n:Nat)(h:Ids n x):Ids n (Xk k t 0 a x):=by
 unfold Xk;rw[Qc];simp only[List.forall_mem_cons,Y8,true_and];exact⟨zT (.inr rfl) (fun x hx=>by cases hx),h,fun x hx=>by cases hx⟩
def xh(T:List Tk)(pid:Nat)(st:St)(p p':PS)(ex:St)(z n:List SV):List (List Nat×St) :=
 [([],st.set pid (.cells (Qn T p))++ex),([4],st.set pid (.cells (Qn T p'))++ex),([7],st.set pid (.cells (Qn T p))++(ex++[.cells z])),([4,7],st.set pid (.cells (Qn T p'))++(ex++[.cells z])),([4,7,8],st.set pid (.cells (Qn T p'))++(ex++[.cells n]))]
section
variable {T:List Tk} {pid:Nat} {st:St} {p p':PS} {ex:St} {z n:List SV}
theorem Q5:Yf (xh T pid st p p' ex z n) []=st.set pid (.cells (Qn T p))++ex:=rfl
theorem Xb:Yf (xh T pid st p p' ex z n) [4]=st.set pid (.cells (Qn T p'))++ex:=rfl
theorem Q6:Yf (xh T pid st p p' ex z n) [7]=st.set pid (.cells (Qn T p))++(ex++[.cells z]):=rfl
theorem Qd:Yf (xh T pid st p p' ex z n) [4,7]=st.set pid (.cells (Qn T p'))++(ex++[.cells z]):=rfl
theorem ZB:Yf (xh T pid st p p' ex z n) [4,7,8]=st.set pid (.cells (Qn T p'))++(ex++[.cells n]):=rfl
end
end Go.AL
namespace Go.Proofs
open Go Go.AL Tryz
theorem Nj{T:List Tk}(hT:T.length≤100000){pid:Nat}{e:PM Nd}(he:HC T pid 79 e):HC T pid 123 (B9 T e):=by
 intro p r p' h K st hp hk;refine zA (zp [] func123 rfl results123 ntmps123 ?_);unfold B9 at h;simp only[xoB,xoM,xpX,xpJ] at h;obtain⟨t0,p1,h1,nm,rc,v,p2,h2,p3,h3,x,p4,h4,rfl,rfl⟩:=h;simp only[go_sem];refine Q9 hT h1 (zu hp) ?_;simp only[go_sem,zb hp];first | (unfold zf;simp only[ze,zc,zl,xsS,xsZ,xgS,xgZ]) | skip
 refine wc hT he _ _ _ _ _ h2 _ _ (zh hp) ?_;simp only[go_sem,zb hp];first | (unfold zf;simp only[ze,zc,zl,xsS,xsZ,xgS,xgZ]) | skip
 refine Qe hT h3 (zh hp) fun _=>?_;simp only[go_sem,zb hp];refine qN [] [4,7,8] (xh T pid st p3 p4 [.cells qv,.cells (zq v).cells] qv [.sc (.int .i64 8),.sc (.string (ba nm)),.sc (.int .i64 0),.sc (.int .i64 t0.pos),.slice .full 0 [],.slice .full 6 [zq v,zq x]])
  [[[],[7],[4],[4,7]],[[],[7],[4],[4,7]],[[],[7],[4],[4,7]],[[],[7]],[[],[7]],[[4],[4,7]],[[4],[4,7]],[[],[4]],[[4,7]]] mixed rfl rfl rfl rfl rfl ?_
 refine FP rfl (.sc (.int .i64 t0.pos)) (by simp only[go_sem]) (by simp only[go_sem]) (by simp only[go_sem]) (by simp only[go_sem]) ?_;refine FP rfl (.sc (.string (ba nm))) (by simp only[go_sem]) (by simp only[go_sem]) (by simp only[go_sem]) (by simp only[go_sem]) ?_;refine FP rfl (zq v) (by simp only[go_sem,Q5,Xb,Q6,Qd,ZB]) (by simp only[go_sem,Q5,Xb,Q6,Qd,ZB]) (by simp only[go_sem,Q5,Xb,Q6,Qd,ZB]) (by simp only[go_sem,Q5,Xb,Q6,Qd,ZB]) ?_;refine Zd rfl (.ptr pid 0) ?_;refine Qz (d:=[4]) (d2:=[4,7]) rfl rfl rfl (zq x) rfl ?_ ?_ ?_
 ·simp only[go_sem,Q5,Xb,Q6,Qd,ZB];refine W1 he rfl h4 (zh hp) ?_;simp only[go_sem,zb hp]
 ·simp only[go_sem,Q5,Xb,Q6,Qd,ZB];refine W1 he rfl h4 (zh hp) ?_;simp only[go_sem,zb hp]
 refine qt rfl (.slice .full 6 [zq v,zq x]) ?_ ?_ ?_
 ·simp only[go_sem];refine⟨_,?_,rfl⟩;simp only[go_sem];exact⟨⟨[],by simp⟩,zM _ _ (.inr rfl) _ [_,_],.inl rfl⟩
 ·simp only[go_sem];refine⟨_,?_,rfl⟩;simp only[go_sem];exact⟨⟨[],by simp⟩,zM _ _ (.inr rfl) _ [_,_],.inl rfl⟩
 refine qt rfl (Xk 8 nm 0 t0.pos (.slice .full 6 [zq v,zq x])) ?_ ?_ ?_
 ·simp only[go_sem];rw[zt];refine⟨_,?_,rfl⟩;simp only[go_sem];refine XF rfl rfl rfl rfl (fun _=>rfl) (zM _ _ (.inr rfl) 6 [v,x]) ?_;exact⟨⟨[],by simp⟩,Hw _ (zM _ _ (.inr rfl) 6 [v,x]),.inl rfl⟩
 ·simp only[go_sem];rw[zt];refine⟨_,?_,rfl⟩;simp only[go_sem];refine XF rfl rfl rfl rfl (fun _=>rfl) (zM _ _ (.inr rfl) 6 [v,x]) ?_;exact⟨⟨[],by simp⟩,Hw _ (zM _ _ (.inr rfl) 6 [v,x]),.inl rfl⟩
 refine Qz (d:=[7]) (d2:=[4,7]) rfl rfl rfl (.ptr (st.length+2) 0) rfl ?_ ?_ ?_
 ·simp only[go_sem,Q5,Xb,Q6,Qd,ZB,qv]
 ·simp only[go_sem,Q5,Xb,Q6,Qd,ZB,qv]
 refine ZP (d:=[4,7,8]) rfl rfl .any rfl ?_ ?_
 ·unfold Xk;simp only[go_sem,Q5,Xb,Q6,Qd,ZB,qv]
 refine Qp ?_;cases rc with
 | true =>
  simp only[go_sem,Q5,Xb,Q6,Qd,ZB,qv];exact YO (z1:=0) (z2:=6) (m1 :=.full) (m2 :=.full) (nd:=zw 9 t0.pos nm [v,x]) hk (.inr rfl) (.inl rfl)
 | false =>
  simp only[go_sem,Q5,Xb,Q6,Qd,ZB,qv];exact YO (z1:=0) (z2:=6) (m1 :=.full) (m2 :=.full) (nd:=zw 8 t0.pos nm [v,x]) hk (.inr rfl) (.inl rfl)
theorem Nn{T:List Tk}(hT:T.length≤100000){pid:Nat}{e:PM Nd}(he:HC T pid 79 e):HC T pid 162 (Hm T e):=by
 intro p r p' h K st hp hk;refine zA (zp [] func162 rfl results162 ntmps162 ?_);unfold Hm at h;simp only[xoB,xoM,xpX,xpJ] at h;obtain⟨t0,p1,h1,v,p2,h2,p3,h3,t1,p4,h4,p5,h5,x,p6,h6,p7,h7,rfl,rfl⟩:=h;simp only[go_sem];refine Q9 hT h1 (zu hp) ?_;simp only[go_sem,zb hp];first | (unfold zf;simp only[ze,zc,zl,xsS,xsZ,xgS,xgZ]) | skip
 refine Ko hT he _ _ _ h2 _ _ (zh hp) ?_;simp only[go_sem,zb hp];first | (unfold zf;simp only[ze,zc,zl,xsS,xsZ,xgS,xgZ]) | skip
 refine Qe hT h3 (zh hp) fun _=>?_;simp only[go_sem,zb hp];first | (unfold zf;simp only[ze,zc,zl,xsS,xsZ,xgS,xgZ]) | skip
 refine WU hT h4 (zh hp) ?_;simp only[go_sem,zb hp];first | (unfold zf;simp only[ze,zc,zl,xsS,xsZ,xgS,xgZ]) | skip
 refine Qe hT h5 (zh hp) fun _=>?_;simp only[go_sem,zb hp];refine qN [] [4,7,8] (xh T pid st p5 p6 [.cells qv,.cells (zq v).cells] qv [.sc (.int .i64 12),.sc (.string (ba t1.text)),.sc (.int .i64 0),.sc (.int .i64 t0.pos),.slice .full 0 [],.slice .full 6 [zq v,zq x]])
  [[[],[7],[4],[4,7]],[[],[7],[4],[4,7]],[[],[7],[4],[4,7]],[[],[7]],[[],[7]],[[4],[4,7]],[[4],[4,7]],[[],[4]],[[4,7]]] mixed rfl rfl rfl rfl rfl ?_
 refine FP rfl (.sc (.int .i64 t0.pos)) (by simp only[go_sem]) (by simp only[go_sem]) (by simp only[go_sem]) (by simp only[go_sem]) ?_;refine FP rfl (.sc (.string (ba t1.text))) (by simp only[go_sem]) (by simp only[go_sem]) (by simp only[go_sem]) (by simp only[go_sem]) ?_;refine FP rfl (zq v) (by simp only[go_sem,Q5,Xb,Q6,Qd,ZB]) (by simp only[go_sem,Q5,Xb,Q6,Qd,ZB]) (by simp only[go_sem,Q5,Xb,Q6,Qd,ZB]) (by simp only[go_sem,Q5,Xb,Q6,Qd,ZB]) ?_;refine Zd rfl (.ptr pid 0) ?_;refine Qz (d:=[4]) (d2:=[4,7]) rfl rfl rfl (zq x) rfl ?_ ?_ ?_
 ·simp only[go_sem,Q5,Xb,Q6,Qd,ZB];refine Ko hT he _ _ _ h6 _ _ (zh hp) ?_;simp only[go_sem,zb hp]
 ·simp only[go_sem,Q5,Xb,Q6,Qd,ZB];refine Ko hT he _ _ _ h6 _ _ (zh hp) ?_;simp only[go_sem,zb hp]
 refine qt rfl (.slice .full 6 [zq v,zq x]) ?_ ?_ ?_
 ·simp only[go_sem];refine⟨_,?_,rfl⟩;simp only[go_sem];exact⟨⟨[],by simp⟩,zM _ _ (.inr rfl) _ [_,_],.inl rfl⟩
 ·simp only[go_sem];refine⟨_,?_,rfl⟩;simp only[go_sem];exact⟨⟨[],by simp⟩,zM _ _ (.inr rfl) _ [_,_],.inl rfl⟩
 refine qt rfl (Xk 12 t1.text 0 t0.pos (.slice .full 6 [zq v,zq x])) ?_ ?_ ?_
 ·simp only[go_sem];rw[zt];refine⟨_,?_,rfl⟩;simp only[go_sem];refine XF rfl rfl rfl rfl (fun _=>rfl) (zM _ _ (.inr rfl) 6 [v,x]) ?_;exact⟨⟨[],by simp⟩,Hw _ (zM _ _ (.inr rfl) 6 [v,x]),.inl rfl⟩
 ·simp only[go_sem];rw[zt];refine⟨_,?_,rfl⟩;simp only[go_sem];refine XF rfl rfl rfl rfl (fun _=>rfl) (zM _ _ (.inr rfl) 6 [v,x]) ?_;exact⟨⟨[],by simp⟩,Hw _ (zM _ _ (.inr rfl) 6 [v,x]),.inl rfl⟩
 refine Qz (d:=[7]) (d2:=[4,7]) rfl rfl rfl (.ptr (st.length+2) 0) rfl ?_ ?_ ?_
 ·simp only[go_sem,Q5,Xb,Q6,Qd,ZB,qv]
 ·simp only[go_sem,Q5,Xb,Q6,Qd,ZB,qv]
 refine ZP (d:=[4,7,8]) rfl rfl .any rfl ?_ ?_
 ·unfold Xk;simp only[go_sem,Q5,Xb,Q6,Qd,ZB,qv]
 refine Qp ?_;simp only[go_sem,Q5,Xb,Q6,Qd,ZB,qv];refine Qe hT h7 (zh hp) fun _=>?_;simp only[go_sem,zb hp];exact YO (z1:=0) (z2:=6) (m1 :=.full) (m2 :=.full) (nd:=zw 12 t0.pos t1.text [v,x]) hk (.inr rfl) (.inl rfl)
end Go.Proofs
namespace Go.AL
theorem vT(n:Nd)(c:List Nd):(n.addKids c).kind=n.kind:=by cases n;rfl
theorem vY(n:Nd)(c:List Nd):(n.addKids c).text=n.text:=by cases n;rfl
theorem xt(n:Nd)(c:List Nd):(n.addKids c).num=n.num:=by cases n;rfl
theorem gU(n:Nd)(c:List Nd):(n.addKids c).pos=n.pos:=by cases n;rfl
theorem FS(n:Nd)(c:List Nd):(n.addKids c).names=n.names:=by cases n;rfl
theorem Hz(n:Nd)(c:List Nd):(n.addKids c).kids=n.kids++c:=by cases n;rfl
end Go.AL
namespace Go.Proofs
open Go Go.AL Tryz
theorem pK{n:Nat}(h:n≤1000000):IntKind.i64.wrap (Int.tdiv (n:Int) 2)=Int.tdiv (n:Int) 2:=by
 have:Int.tdiv (n:Int) 2=((n / 2:Nat):Int):=by simp[Int.tdiv]
 rw[this,IntWalk.i64_in _ (by omega)]
theorem o0{T:List Tk}(hT:T.length≤100000){pid:Nat}{e pt:PM Nd}(he:HC T pid 79 e)(hpt:HC T pid 170 pt):HC T pid 161 (Y1 T e pt):=by
 intro p r p' h K st hp hk;refine zA (zp [] func161 rfl results161 ntmps161 ?_);unfold Y1 at h;simp only[xoB,xoM,xpX,xpJ] at h;obtain⟨t0,p1,h1,v,p2,h2,p3,h3,n1,p4,h4,p5,h5,rfl,rfl⟩:=h;simp only[go_sem];refine Q9 hT h1 (zu hp) ?_;simp only[go_sem,zb hp];first | (unfold zf;simp only[ze,zc,zl,xsS,xsZ,xgS,xgZ]) | skip
 refine Ko hT he _ _ _ h2 _ _ (zh hp) ?_;simp only[go_sem,zb hp];first | (unfold zf;simp only[ze,zc,zl,xsS,xsZ,xgS,xgZ]) | skip
 refine XF rfl rfl rfl rfl (fun _=>rfl) (zM _ _ (.inr rfl) 6 [v]) ?_;unfold Xk;simp only[go_sem,zb hp];first | (unfold zf;simp only[ze,zc,zl,xsS,xsZ,xgS,xgZ]) | skip
 refine Qe hT h3 (zh hp) fun _=>?_;simp only[go_sem,zb hp];refine fT (st.length+1) 5 6 [zq v] (Zi 1) (by simp) rfl ?_;rw[QK];simp only[xlA,XG,xlC,xlN,xsS,xsZ,xaA,xcA,xnA,Nat.zero_add,Nat.reduceAdd];refine zx [] (fun m env s=>∃ (nd:Nd) (q:PS) (k:Nat) (first:Bool) (ex:St),QR T e pt m first nd q=some (n1,p4)∧2*m+nd.kids.length≤2*T.length+5∧nd.names=[]∧env=[.ptr pid 0,.any,.ptr st.length 0,.any,.ptr (st.length+1) 0,.sc (.bool first),.any,.any,.any,.any,.any,.any,.any,.any,.any,.any,.any,.any,.any,.any,.any,.any,.any,.any,.any,.any,.any,.any,.any,.any,.any,.any,.any,.any,.any,.any,.any,.any,.any,.any,.any,.any,.any,.any,.any] ∧
  s=st.set pid (.cells (Qn T q))++(.cells qv :: .cells (qk (st.length+2) k nd) :: .tok k::ex)) (n:=T.length+2) ?_ ⟨_,_,0,true,[],h4,by simp[zw,Nd.kids];omega,rfl,rfl,rfl⟩ ?_
 ·exact qu
 rintro m env s ⟨nd,q,k,first,ex,hl,hm,hnm,rfl,rfl⟩;cases m with
 | zero=>cases hl
 | succ m =>
 simp only[QR,xoB] at hl;obtain⟨b,hb,hl⟩:=hl;have hhw:=pK (n:=nd.kids.length) (by omega);cases b with
 | false =>
  cases first with
  | true=>cases hb
  | false =>
   simp only[XU,if_false,xsJ,xpJ] at hl hb;obtain⟨rfl,rfl⟩:=hl;unfold Yj at hb;rw[xoM] at hb;obtain⟨t,h6,h7⟩:=hb;simp only[go_sem];refine ZG h6 (zh hp) ?_;simp only[go_sem,h7,zb hp];refine Qe hT h5 (zh hp) fun _=>?_;simp only[go_sem,zb hp,qk,qv];exact V1 hk hnm
 | true =>
  simp only[if_true,xoB,xpX] at hl;obtain⟨q1,h8,q2,h9,x,q3,h10,q4,h11,y,q5,h12,hl⟩:=hl;cases first with
  | true =>
   unfold qk;simp only[go_sem,hhw];refine Jq (p':=q1) (n:=Int.tdiv nd.kids.length 2) (by simpa using h8) (zh hp) fun _=>?_;simp only[go_sem,zb hp];first | (unfold zf;simp only[ze,zc,zl,xsS,xsZ,xgS,xgZ]) | skip
   refine Qe hT h9 (zh hp) fun _=>?_;simp only[go_sem,zb hp];first | (unfold zf;simp only[ze,zc,zl,xsS,xsZ,xgS,xgZ]) | skip
   refine W1 hpt rfl h10 (zh hp) ?_;simp only[go_sem,zb hp];first | (unfold zf;simp only[ze,zc,zl,xsS,xsZ,xgS,xgZ]) | skip
   refine Qe hT h11 (zh hp) fun _=>?_;simp only[go_sem,zb hp];refine zB [] [(0,[6]),(0,[6]),(0,[6]),(0,[]),(3,[6]),(0,[]),(3,[8]),(0,[]),(1,[9])] mixed rfl ?_;simp only[go_sem,qv];refine⟨_,_,Ko hT he _ _ _ h12 _ _ (zh hp) ⟨rfl,rfl⟩,?_⟩;simp only[go_sem,zb hp];rw[zt];refine⟨.slice .full 6 [zq x,zq y],?_,?_⟩
   ·simp only[go_sem];exact⟨⟨[],by simp⟩,zM _ _ (.inr rfl) _ [_,_],.inl rfl⟩
   simp only[go_sem];refine⟨_,_,⟨Tryz.app6 (by omega),rfl,rfl⟩,?_⟩;simp only[go_sem];refine⟨m,_,by omega,?_,nd.addKids [x,y],q5,k+1,false,_,hl,by rw[Hz];simp;omega,by rw[FS];exact hnm,rfl,by rw[vT,vY,xt,gU,Hz,xmA];rfl⟩;exact qu
  | false =>
   unfold Yj at hb;simp only[XU,if_false,xoM] at hb;obtain⟨t,h6,h7⟩:=hb;unfold qk;simp only[go_sem];refine ZG h6 (zh hp) ?_;simp only[go_sem,h7,hhw];first | (unfold zf;simp only[ze,zc,zl,xsS,xsZ,xgS,xgZ]) | skip
   refine Jq (p':=q1) (n:=Int.tdiv nd.kids.length 2) (by simpa using h8) (zh hp) fun _=>?_;simp only[go_sem,zb hp];first | (unfold zf;simp only[ze,zc,zl,xsS,xsZ,xgS,xgZ]) | skip
   refine Qe hT h9 (zh hp) fun _=>?_;simp only[go_sem,zb hp];first | (unfold zf;simp only[ze,zc,zl,xsS,xsZ,xgS,xgZ]) | skip
   refine W1 hpt rfl h10 (zh hp) ?_;simp only[go_sem,zb hp];first | (unfold zf;simp only[ze,zc,zl,xsS,xsZ,xgS,xgZ]) | skip
   refine Qe hT h11 (zh hp) fun _=>?_;simp only[go_sem,zb hp];refine zB [] [(0,[6]),(0,[6]),(0,[6]),(0,[]),(3,[6]),(0,[]),(3,[8]),(0,[]),(1,[9])] mixed rfl ?_;simp only[go_sem,qv];refine⟨_,_,Ko hT he _ _ _ h12 _ _ (zh hp) ⟨rfl,rfl⟩,?_⟩;simp only[go_sem,zb hp];rw[zt];refine⟨.slice .full 6 [zq x,zq y],?_,?_⟩
   ·simp only[go_sem];exact⟨⟨[],by simp⟩,zM _ _ (.inr rfl) _ [_,_],.inl rfl⟩
   simp only[go_sem];refine⟨_,_,⟨Tryz.app6 (by omega),rfl,rfl⟩,?_⟩;simp only[go_sem];refine⟨m,_,by omega,?_,nd.addKids [x,y],q5,k+1,false,_,hl,by rw[Hz];simp;omega,by rw[FS];exact hnm,rfl,by rw[vT,vY,xt,gU,Hz,xmA];rfl⟩;exact qu
end Go.Proofs
