/- whole, kind, begins, slices.Contains of texts. -/
import Derived.Test.YtkokccjfpebomaaGreatDoorN1
set_option linter.all false
set_option maxHeartbeats 4000000
set_option maxRecDepth 8000
namespace Go.Proofs
open Go Go.AL Tryz
variable {K:SV→St→Prop}{st:St}
theorem WQ{T:List Tk}(hT:T.length≤100000){pid:Nat}{e:PM Nd}(he:HC T pid 79 e):HC T pid 163 (Xe T e):=by
 intro p r p' h K st hp hk;refine zw (zl [] func163 rfl results163 ntmps163 ?_);unfold Xe at h;simp only[xoM,xpX,xpJ] at h;obtain⟨x,p1,h1,rfl,rfl⟩:=h;have y:=zF hp;unfold Qa at y;have y1:=zF (QJ (p':=p1) hp);unfold Qa at y1;simp only[go_sem,y.1,y.2.1,y.2.2];refine WI he rfl h1 (ze hp) ?_;unfold Qa;simp only[go_sem,zb hp,y.2.2,y1.1,y1.2.1,y1.2.2];exact Zs hk
theorem Wc{T:List Tk}{pid:Nat}{p:PS}{t:Tk}(h:zE T p=some t)(hp:W8 T pid p st)(hk:K (.sc (.bool (qx t))) st):ACalls prog 153 [.ptr pid 0] K st:=by
 refine zc [] func153 rfl results153 ntmps153 ?_;unfold qx at hk;cases k1:t.kind==1
 ·cases k2:t.kind==2
  ·cases k3:t.kind==3
   ·cases k4:t.kind==4
    ·rw[k1,k2,k3,k4] at hk;cases b1:isT t [40]
     ·cases b2:isT t [114,101,116,114,121]
      ·cases b3:isT t [109,97,116,99,104]
       ·rw[b1,b2,b3] at hk;simp only[go_sem];refine qd h hp ?_;simp only[go_sem,k1,k2,k3,k4];refine Zy h (zo hp) ?_;simp only[go_sem,b1];try (unfold zd;simp only[qc])
        refine Zy h (zo hp) ?_;simp only[go_sem,b1,b2];try (unfold zd;simp only[qc])
        refine Zy h (zo hp) ?_;simp only[go_sem,b1,b2,b3];try (unfold zd;simp only[qc])
        refine Zy h (zo hp) ?_;simp only[go_sem,b1,b2,b3];exact zB (zh _ _) hk
       ·rw[b1,b2,b3] at hk;simp only[go_sem];refine qd h hp ?_;simp only[go_sem,k1,k2,k3,k4];refine Zy h (zo hp) ?_;simp only[go_sem,b1];try (unfold zd;simp only[qc])
        refine Zy h (zo hp) ?_;simp only[go_sem,b1,b2];try (unfold zd;simp only[qc])
        refine Zy h (zo hp) ?_;simp only[go_sem,b1,b2,b3];exact zB (zh _ _) hk
      ·rw[b1,b2] at hk;simp only[go_sem];refine qd h hp ?_;simp only[go_sem,k1,k2,k3,k4];refine Zy h (zo hp) ?_;simp only[go_sem,b1];try (unfold zd;simp only[qc])
       refine Zy h (zo hp) ?_;simp only[go_sem,b1,b2];exact zB (zh _ _) hk
     ·rw[b1] at hk;simp only[go_sem];refine qd h hp ?_;simp only[go_sem,k1,k2,k3,k4];refine Zy h (zo hp) ?_;simp only[go_sem,b1];exact zB (zh _ _) hk
    ·rw[k1,k2,k3,k4] at hk;simp only[go_sem];refine qd h hp ?_;simp only[go_sem,k1,k2,k3,k4];exact zB (zh _ _) hk
   ·rw[k1,k2,k3] at hk;simp only[go_sem];refine qd h hp ?_;simp only[go_sem,k1,k2,k3];exact zB (zh _ _) hk
  ·rw[k1,k2] at hk;simp only[go_sem];refine qd h hp ?_;simp only[go_sem,k1,k2];exact zB (zh _ _) hk
 ·rw[k1] at hk;simp only[go_sem];refine qd h hp ?_;simp only[go_sem,k1];exact zB (zh _ _) hk
theorem bN(n:Nat)(a b:Int):Ids n (X7 [.sc (.int .i64 a),.sc (.int .i64 b)])=True:=eq_true (.tuple _ (by
 intro i hi;match i with
 | 0=>exact .sc _
 | 1=>exact .sc _
 | i+2=>simp at hi;omega))
theorem Zb{s:Tx}{l:Tx}(h:¬ s=l):(s==l)=false:=by simp[h]
theorem Kc{s:Tx}{l:Tx}(h:s=l):(s==l)=true:=by simp[h]
theorem FW{s:Tx}(hk:K (.tuple [.sc (.int .i64 (qT s).1),.sc (.int .i64 (qT s).2)]) st):ACalls prog 151 [.sc (.string (ba s))] K st:=by
 refine zc [] func151 rfl results151 ntmps151 ?_;unfold qT at hk;have hfin:∀ a b:Int,K (.tuple [.sc (.int .i64 a),.sc (.int .i64 b)]) st→Ba st K (X7 [.sc (.int .i64 a),.sc (.int .i64 b)]) st:=fun a b h=>by
  have:=zB (ex:=[]) (x:=X7 [.sc (.int .i64 a),.sc (.int .i64 b)]) (K:=K) (st:=st) (bN _ a b) h;rwa[xaN] at this
 by_cases e1:s=[112,114,105,110,116]
 ·rw[if_pos e1] at hk;simp only[go_sem,Kc e1];exact hfin _ _ hk
 rw[if_neg e1] at hk;by_cases e2:s=[114,97,105,115,101]
 ·rw[if_pos e2] at hk;simp only[go_sem,Zb e1,Kc e2];exact hfin _ _ hk
 rw[if_neg e2] at hk;by_cases e3:s=[115,112,97,119,110]
 ·rw[if_pos e3] at hk;simp only[go_sem,Zb e1,Zb e2,Kc e3];exact hfin _ _ hk
 rw[if_neg e3] at hk;by_cases e4:s=[97,116,111,109,105,99,97,108,108,121]
 ·rw[if_pos e4] at hk;simp only[go_sem,Zb e1,Zb e2,Zb e3,Kc e4];exact hfin _ _ hk
 rw[if_neg e4] at hk;by_cases e5:s=[116,118,97,114]
 ·rw[if_pos e5] at hk;simp only[go_sem,Zb e1,Zb e2,Zb e3,Zb e4,Kc e5];exact hfin _ _ hk
 rw[if_neg e5] at hk;by_cases e6:s=[114,101,97,100]
 ·rw[if_pos e6] at hk;simp only[go_sem,Zb e1,Zb e2,Zb e3,Zb e4,Zb e5,Kc e6];exact hfin _ _ hk
 rw[if_neg e6] at hk;by_cases e7:s=[119,114,105,116,101]
 ·rw[if_pos e7] at hk;simp only[go_sem,Zb e1,Zb e2,Zb e3,Zb e4,Zb e5,Zb e6,Kc e7];exact hfin _ _ hk
 rw[if_neg e7] at hk;by_cases e8:s=[111,114,101,108,115,101]
 ·rw[if_pos e8] at hk;simp only[go_sem,Zb e1,Zb e2,Zb e3,Zb e4,Zb e5,Zb e6,Zb e7,Kc e8];exact hfin _ _ hk
 rw[if_neg e8] at hk;simp only[go_sem,Zb e1,Zb e2,Zb e3,Zb e4,Zb e5,Zb e6,Zb e7,Zb e8];exact hfin _ _ hk
theorem zD{st:St}{K:SV→St→Prop}{x:SV}(hi:Ids st.length (norm x)=True)(hk:K (norm x) st):Ba st K x st:=by
 have:=zB (ex:=[]) hi hk;rwa[xaN] at this
theorem tT{m:AL.Mode}{l:List Tx}(hl:l.length≤1000000){x:Tx}(hk:∀ i:Int,(0≤i↔x∈l)→K (.sc (.int .i64 i)) st):ACalls prog 154 [.slice m 1 (l.map z8),.sc (.string (ba x))] K st:=by
 refine zc [] func154 rfl results154 ntmps154 ?_;simp only[go_sem];refine zt [] (fun k env s=>∃ j:Nat,k+j=l.length∧x ∉ l.take j∧env=(.slice m 1 (l.map z8) :: .sc (.string (ba x)) :: .any::XQ (.sc (.int .i64 l.length) :: .sc (.int .i64 j) :: .any :: .any::JW []))∧s=st) (n:=l.length) ?_ ⟨0,by omega,by simp,rfl,rfl⟩ ?_
 ·exact qv
 rintro k env s ⟨j,hj,hx,rfl,rfl⟩;by_cases hlt:j<l.length
 ·have c1:decide ((j:Int)<(l.length:Int))=true:=by simp;omega
  have hg:(l.map z8).getD j .any=z8 (l[j]):=by simp[xgE,hlt]
  have hw:IntKind.i64.wrap ((j:Int)+1)=((j+1:Nat):Int):=by rw[IntWalk.i64_in _ (by omega)];rfl
  cases hb:x==l[j] with
  | true =>
   simp only[go_sem,c1,hg,z8,hb];exact⟨by simp[hlt],zD (zh _ _) (hk j ⟨fun _=>(beq_iff_eq.1 hb)▸List.getElem_mem hlt,fun _=>by omega⟩)⟩
  | false =>
   simp only[go_sem,c1,hg,z8,hb,hw];refine⟨by simp[hlt],k-1,_,by omega,?_,j+1,by omega,?_,rfl⟩
   ·exact qv
   ·rw[List.take_succ_eq_append_getElem hlt,List.mem_append];rintro (h | h)
    ·exact hx h
    ·simp at h;simp[h] at hb
 ·have c1:decide ((j:Int)<(l.length:Int))=false:=by simp;omega
  simp only[go_sem,c1];exact zD (zh _ _) (hk (-1) (by rw[List.take_of_length_le (by omega)] at hx;simp[hx]))
theorem GS{m:AL.Mode}{l:List Tx}(hl:l.length≤1000000){x:Tx}(hk:K (.sc (.bool (decide (x∈l)))) st):ACalls prog 141 [.slice m 1 (l.map z8),.sc (.string (ba x))] K st:=by
 refine zc [] func141 rfl results141 ntmps141 ?_;simp only[go_sem];refine tT hl fun i hi=>?_;have c1:decide ((0:Int)≤i)=decide (x∈l):=by simp[hi]
 simp only[go_sem,ge_iff_le,c1];exact zD (zh _ _) hk
end Go.Proofs
namespace Go.AL
variable {P:Program}
section
variable {M:List Nat} {ds:List (Option Tmp)} {ks:List Nat} {tbl:List (List Nat×St)} {i:Nat} {Ls:List (List (List Nat))} {o:Oper} {r:List Oper} {env:List SV} {K:List SV→Prop} {c c2 c3 c4:List Nat}
theorem BZ(hk:ks.contains i=false)(X:SV)(h1:Zg P M ds o env (XX tbl c) (fun x=>x=X))(h2:Zg P M ds o env (XX tbl c2) (fun x=>x=X))(h3:Zg P M ds o env (XX tbl c3) (fun x=>x=X))(h4:Zg P M ds o env (XX tbl c4) (fun x=>x=X))
  (h:Jx P M ds ks tbl (i+1) Ls r (Zx env o.dst X) K):Jx P M ds ks tbl i ([c,c2,c3,c4]::Ls) (o::r) env K:=by
 refine⟨X,?_,h⟩;rw[if_neg (by rw[hk];decide)];intro x hx;simp only[List.mem_cons,List.not_mem_nil,or_false] at hx;rcases hx with rfl | rfl | rfl | rfl
 ·exact h1
 ·exact h2
 ·exact h3
 ·exact h4
end
theorem Hg{k a:Int}{t:Tx}{x:SV}(n:Nat)(h:Ids n x):Ids n (Q8 k t 0 a x):=by
 unfold Q8;rw[Z9];simp only[List.forall_mem_cons,YV,true_and];exact⟨zQ (.inr rfl) (fun x hx=>by cases hx),h,fun x hx=>by cases hx⟩
def vn(T:List Tk)(pid:Nat)(st:St)(p p':PS)(ex:St)(z n:List SV):List (List Nat×St) :=
 [([],st.set pid (.cells (Qa T p))++ex),([4],st.set pid (.cells (Qa T p'))++ex),([7],st.set pid (.cells (Qa T p))++(ex++[.cells z])),([4,7],st.set pid (.cells (Qa T p'))++(ex++[.cells z])),([4,7,8],st.set pid (.cells (Qa T p'))++(ex++[.cells n]))]
section
variable {T:List Tk} {pid:Nat} {st:St} {p p':PS} {ex:St} {z n:List SV}
theorem QU:XX (vn T pid st p p' ex z n) []=st.set pid (.cells (Qa T p))++ex:=rfl
theorem QV:XX (vn T pid st p p' ex z n) [4]=st.set pid (.cells (Qa T p'))++ex:=rfl
theorem QR:XX (vn T pid st p p' ex z n) [7]=st.set pid (.cells (Qa T p))++(ex++[.cells z]):=rfl
theorem ZY:XX (vn T pid st p p' ex z n) [4,7]=st.set pid (.cells (Qa T p'))++(ex++[.cells z]):=rfl
theorem Zt:XX (vn T pid st p p' ex z n) [4,7,8]=st.set pid (.cells (Qa T p'))++(ex++[.cells n]):=rfl
end
end Go.AL
namespace Go.Proofs
open Go Go.AL Tryz
theorem Ci{T:List Tk}(hT:T.length≤100000){pid:Nat}{e:PM Nd}(he:HC T pid 79 e):HC T pid 123 (Bg T e):=by
 intro p r p' h K st hp hk;refine zw (zl [] func123 rfl results123 ntmps123 ?_);unfold Bg at h;simp only[xoB,xoM,xpX,xpJ] at h;obtain⟨t0,p1,h1,nm,rc,v,p2,h2,p3,h3,x,p4,h4,rfl,rfl⟩:=h;simp only[go_sem];refine QT hT h1 (zo hp) ?_;simp only[go_sem,zb hp];try (unfold zd;simp only[qc])
 refine Lj hT he _ _ _ _ _ h2 _ _ (ze hp) ?_;simp only[go_sem,zb hp];try (unfold zd;simp only[qc])
 refine Z6 hT h3 (ze hp) fun _=>?_;simp only[go_sem,zb hp];refine qE [] [4,7,8] (vn T pid st p3 p4 [.cells qu,.cells (zq v).cells] qu [.sc (.int .i64 8),.sc (.string (ba nm)),.sc (.int .i64 0),.sc (.int .i64 t0.pos),.slice .full 0 [],.slice .full 6 [zq v,zq x]])
  [[[],[7],[4],[4,7]],[[],[7],[4],[4,7]],[[],[7],[4],[4,7]],[[],[7]],[[],[7]],[[4],[4,7]],[[4],[4,7]],[[],[4]],[[4,7]]] mixed rfl rfl rfl rfl rfl ?_
 refine BZ rfl (.sc (.int .i64 t0.pos)) (by simp only[go_sem]) (by simp only[go_sem]) (by simp only[go_sem]) (by simp only[go_sem]) ?_;refine BZ rfl (.sc (.string (ba nm))) (by simp only[go_sem]) (by simp only[go_sem]) (by simp only[go_sem]) (by simp only[go_sem]) ?_;refine BZ rfl (zq v) (by simp only[go_sem,QU,QV,QR,ZY,Zt]) (by simp only[go_sem,QU,QV,QR,ZY,Zt]) (by simp only[go_sem,QU,QV,QR,ZY,Zt]) (by simp only[go_sem,QU,QV,QR,ZY,Zt]) ?_;refine qW rfl (.ptr pid 0) ?_;refine Qp (d:=[4]) (d2:=[4,7]) rfl rfl rfl (zq x) rfl ?_ ?_ ?_
 ·simp only[go_sem,QU,QV,QR,ZY,Zt];refine WI he rfl h4 (ze hp) ?_;simp only[go_sem,zb hp]
 ·simp only[go_sem,QU,QV,QR,ZY,Zt];refine WI he rfl h4 (ze hp) ?_;simp only[go_sem,zb hp]
 refine qm rfl (.slice .full 6 [zq v,zq x]) ?_ ?_ ?_
 ·simp only[go_sem];refine⟨_,?_,rfl⟩;simp only[go_sem];exact⟨⟨[],by simp⟩,zK _ _ (.inr rfl) _ [_,_],.inl rfl⟩
 ·simp only[go_sem];refine⟨_,?_,rfl⟩;simp only[go_sem];exact⟨⟨[],by simp⟩,zK _ _ (.inr rfl) _ [_,_],.inl rfl⟩
 refine qm rfl (Q8 8 nm 0 t0.pos (.slice .full 6 [zq v,zq x])) ?_ ?_ ?_
 ·simp only[go_sem];rw[zp];refine⟨_,?_,rfl⟩;simp only[go_sem];refine Xx rfl rfl rfl rfl (fun _=>rfl) (zK _ _ (.inr rfl) 6 [v,x]) ?_;exact⟨⟨[],by simp⟩,Hg _ (zK _ _ (.inr rfl) 6 [v,x]),.inl rfl⟩
 ·simp only[go_sem];rw[zp];refine⟨_,?_,rfl⟩;simp only[go_sem];refine Xx rfl rfl rfl rfl (fun _=>rfl) (zK _ _ (.inr rfl) 6 [v,x]) ?_;exact⟨⟨[],by simp⟩,Hg _ (zK _ _ (.inr rfl) 6 [v,x]),.inl rfl⟩
 refine Qp (d:=[7]) (d2:=[4,7]) rfl rfl rfl (.ptr (st.length+2) 0) rfl ?_ ?_ ?_
 ·simp only[go_sem,QU,QV,QR,ZY,Zt,qu]
 ·simp only[go_sem,QU,QV,QR,ZY,Zt,qu]
 refine ZH (d:=[4,7,8]) rfl rfl .any rfl ?_ ?_
 ·unfold Q8;simp only[go_sem,QU,QV,QR,ZY,Zt,qu]
 refine Qc ?_;cases rc with
 | true =>
  simp only[go_sem,QU,QV,QR,ZY,Zt,qu];exact YA (z1:=0) (z2:=6) (m1 :=.full) (m2 :=.full) (nd:=zr 9 t0.pos nm [v,x]) hk (.inr rfl) (.inl rfl)
 | false =>
  simp only[go_sem,QU,QV,QR,ZY,Zt,qu];exact YA (z1:=0) (z2:=6) (m1 :=.full) (m2 :=.full) (nd:=zr 8 t0.pos nm [v,x]) hk (.inr rfl) (.inl rfl)
theorem A0{T:List Tk}(hT:T.length≤100000){pid:Nat}{e:PM Nd}(he:HC T pid 79 e):HC T pid 162 (E6 T e):=by
 intro p r p' h K st hp hk;refine zw (zl [] func162 rfl results162 ntmps162 ?_);unfold E6 at h;simp only[xoB,xoM,xpX,xpJ] at h;obtain⟨t0,p1,h1,v,p2,h2,p3,h3,t1,p4,h4,p5,h5,x,p6,h6,p7,h7,rfl,rfl⟩:=h;simp only[go_sem];refine QT hT h1 (zo hp) ?_;simp only[go_sem,zb hp];try (unfold zd;simp only[qc])
 refine WQ hT he _ _ _ h2 _ _ (ze hp) ?_;simp only[go_sem,zb hp];try (unfold zd;simp only[qc])
 refine Z6 hT h3 (ze hp) fun _=>?_;simp only[go_sem,zb hp];try (unfold zd;simp only[qc])
 refine Wi hT h4 (ze hp) ?_;simp only[go_sem,zb hp];try (unfold zd;simp only[qc])
 refine Z6 hT h5 (ze hp) fun _=>?_;simp only[go_sem,zb hp];refine qE [] [4,7,8] (vn T pid st p5 p6 [.cells qu,.cells (zq v).cells] qu [.sc (.int .i64 12),.sc (.string (ba t1.text)),.sc (.int .i64 0),.sc (.int .i64 t0.pos),.slice .full 0 [],.slice .full 6 [zq v,zq x]])
  [[[],[7],[4],[4,7]],[[],[7],[4],[4,7]],[[],[7],[4],[4,7]],[[],[7]],[[],[7]],[[4],[4,7]],[[4],[4,7]],[[],[4]],[[4,7]]] mixed rfl rfl rfl rfl rfl ?_
 refine BZ rfl (.sc (.int .i64 t0.pos)) (by simp only[go_sem]) (by simp only[go_sem]) (by simp only[go_sem]) (by simp only[go_sem]) ?_;refine BZ rfl (.sc (.string (ba t1.text))) (by simp only[go_sem]) (by simp only[go_sem]) (by simp only[go_sem]) (by simp only[go_sem]) ?_;refine BZ rfl (zq v) (by simp only[go_sem,QU,QV,QR,ZY,Zt]) (by simp only[go_sem,QU,QV,QR,ZY,Zt]) (by simp only[go_sem,QU,QV,QR,ZY,Zt]) (by simp only[go_sem,QU,QV,QR,ZY,Zt]) ?_;refine qW rfl (.ptr pid 0) ?_;refine Qp (d:=[4]) (d2:=[4,7]) rfl rfl rfl (zq x) rfl ?_ ?_ ?_
 ·simp only[go_sem,QU,QV,QR,ZY,Zt];refine WQ hT he _ _ _ h6 _ _ (ze hp) ?_;simp only[go_sem,zb hp]
 ·simp only[go_sem,QU,QV,QR,ZY,Zt];refine WQ hT he _ _ _ h6 _ _ (ze hp) ?_;simp only[go_sem,zb hp]
 refine qm rfl (.slice .full 6 [zq v,zq x]) ?_ ?_ ?_
 ·simp only[go_sem];refine⟨_,?_,rfl⟩;simp only[go_sem];exact⟨⟨[],by simp⟩,zK _ _ (.inr rfl) _ [_,_],.inl rfl⟩
 ·simp only[go_sem];refine⟨_,?_,rfl⟩;simp only[go_sem];exact⟨⟨[],by simp⟩,zK _ _ (.inr rfl) _ [_,_],.inl rfl⟩
 refine qm rfl (Q8 12 t1.text 0 t0.pos (.slice .full 6 [zq v,zq x])) ?_ ?_ ?_
 ·simp only[go_sem];rw[zp];refine⟨_,?_,rfl⟩;simp only[go_sem];refine Xx rfl rfl rfl rfl (fun _=>rfl) (zK _ _ (.inr rfl) 6 [v,x]) ?_;exact⟨⟨[],by simp⟩,Hg _ (zK _ _ (.inr rfl) 6 [v,x]),.inl rfl⟩
 ·simp only[go_sem];rw[zp];refine⟨_,?_,rfl⟩;simp only[go_sem];refine Xx rfl rfl rfl rfl (fun _=>rfl) (zK _ _ (.inr rfl) 6 [v,x]) ?_;exact⟨⟨[],by simp⟩,Hg _ (zK _ _ (.inr rfl) 6 [v,x]),.inl rfl⟩
 refine Qp (d:=[7]) (d2:=[4,7]) rfl rfl rfl (.ptr (st.length+2) 0) rfl ?_ ?_ ?_
 ·simp only[go_sem,QU,QV,QR,ZY,Zt,qu]
 ·simp only[go_sem,QU,QV,QR,ZY,Zt,qu]
 refine ZH (d:=[4,7,8]) rfl rfl .any rfl ?_ ?_
 ·unfold Q8;simp only[go_sem,QU,QV,QR,ZY,Zt,qu]
 refine Qc ?_;simp only[go_sem,QU,QV,QR,ZY,Zt,qu];refine Z6 hT h7 (ze hp) fun _=>?_;simp only[go_sem,zb hp];exact YA (z1:=0) (z2:=6) (m1 :=.full) (m2 :=.full) (nd:=zr 12 t0.pos t1.text [v,x]) hk (.inr rfl) (.inl rfl)
end Go.Proofs
namespace Go.AL
theorem j7(n:Nd)(c:List Nd):(n.addKids c).kind=n.kind:=by cases n;rfl
theorem wj(n:Nd)(c:List Nd):(n.addKids c).text=n.text:=by cases n;rfl
theorem uQ(n:Nd)(c:List Nd):(n.addKids c).num=n.num:=by cases n;rfl
theorem yp(n:Nd)(c:List Nd):(n.addKids c).pos=n.pos:=by cases n;rfl
theorem FD(n:Nd)(c:List Nd):(n.addKids c).names=n.names:=by cases n;rfl
theorem Hs(n:Nd)(c:List Nd):(n.addKids c).kids=n.kids++c:=by cases n;rfl
end Go.AL
namespace Go.Proofs
open Go Go.AL Tryz
theorem xu{n:Nat}(h:n≤1000000):IntKind.i64.wrap (Int.tdiv (n:Int) 2)=Int.tdiv (n:Int) 2:=by
 have:Int.tdiv (n:Int) 2=((n / 2:Nat):Int):=by simp[Int.tdiv]
 rw[this,IntWalk.i64_in _ (by omega)]
theorem fV{T:List Tk}(hT:T.length≤100000){pid:Nat}{e pt:PM Nd}(he:HC T pid 79 e)(hpt:HC T pid 170 pt):HC T pid 161 (JH T e pt):=by
 intro p r p' h K st hp hk;refine zw (zl [] func161 rfl results161 ntmps161 ?_);unfold JH at h;simp only[xoB,xoM,xpX,xpJ] at h;obtain⟨t0,p1,h1,v,p2,h2,p3,h3,n1,p4,h4,p5,h5,rfl,rfl⟩:=h;simp only[go_sem];refine QT hT h1 (zo hp) ?_;simp only[go_sem,zb hp];try (unfold zd;simp only[qc])
 refine WQ hT he _ _ _ h2 _ _ (ze hp) ?_;simp only[go_sem,zb hp];try (unfold zd;simp only[qc])
 refine Xx rfl rfl rfl rfl (fun _=>rfl) (zK _ _ (.inr rfl) 6 [v]) ?_;unfold Q8;simp only[go_sem,zb hp];try (unfold zd;simp only[qc])
 refine Z6 hT h3 (ze hp) fun _=>?_;simp only[go_sem,zb hp];refine nX (st.length+1) 5 6 [zq v] (Za 1) (by simp) rfl ?_;rw[Qu];simp only[xlA,Xv,xlC,xlN,xsS,xsZ,xaA,xcA,xnA,Nat.zero_add,Nat.reduceAdd];refine zt [] (fun m env s=>∃ (nd:Nd) (q:PS) (k:Nat) (first:Bool) (ex:St),Q1 T e pt m first nd q=some (n1,p4)∧2*m+nd.kids.length≤2*T.length+5∧nd.names=[]∧env=(.ptr pid 0 :: .any :: .ptr st.length 0 :: .any :: .ptr (st.length+1) 0 :: .sc (.bool first) :: .any :: .any :: .any::XQ (XD [])) ∧
  s=st.set pid (.cells (Qa T q))++(.cells qu :: .cells (qg (st.length+2) k nd) :: .tok k::ex)) (n:=T.length+2) ?_ ⟨_,_,0,true,[],h4,by simp[zr,Nd.kids];omega,rfl,rfl,rfl⟩ ?_
 ·exact qv
 rintro m env s ⟨nd,q,k,first,ex,hl,hm,hnm,rfl,rfl⟩;cases m with
 | zero=>cases hl
 | succ m =>
 simp only[Q1,xoB] at hl;obtain⟨b,hb,hl⟩:=hl;have hhw:=xu (n:=nd.kids.length) (by omega);cases b with
 | false =>
  cases first with
  | true=>cases hb
  | false =>
   simp only[Yd,if_false,xsJ,xpJ] at hl hb;obtain⟨rfl,rfl⟩:=hl;unfold Ye at hb;rw[xoM] at hb;obtain⟨t,h6,h7⟩:=hb;simp only[go_sem];refine Zy h6 (ze hp) ?_;simp only[go_sem,h7,zb hp];refine Z6 hT h5 (ze hp) fun _=>?_;simp only[go_sem,zb hp,qg,qu];exact VC hk hnm
 | true =>
  simp only[if_true,xoB,xpX] at hl;obtain⟨q1,h8,q2,h9,x,q3,h10,q4,h11,y,q5,h12,hl⟩:=hl;cases first with
  | true =>
   unfold qg;simp only[go_sem,hhw];refine Jk (p':=q1) (n:=Int.tdiv nd.kids.length 2) (by simpa using h8) (ze hp) fun _=>?_;simp only[go_sem,zb hp];try (unfold zd;simp only[qc])
   refine Z6 hT h9 (ze hp) fun _=>?_;simp only[go_sem,zb hp];try (unfold zd;simp only[qc])
   refine WI hpt rfl h10 (ze hp) ?_;simp only[go_sem,zb hp];try (unfold zd;simp only[qc])
   refine Z6 hT h11 (ze hp) fun _=>?_;simp only[go_sem,zb hp];refine zA [] [(0,[6]),(0,[6]),(0,[6]),(0,[]),(3,[6]),(0,[]),(3,[8]),(0,[]),(1,[9])] mixed rfl ?_;simp only[go_sem,qu];refine⟨_,_,WQ hT he _ _ _ h12 _ _ (ze hp) ⟨rfl,rfl⟩,?_⟩;simp only[go_sem,zb hp];rw[zp];refine⟨.slice .full 6 [zq x,zq y],?_,?_⟩
   ·simp only[go_sem];exact⟨⟨[],by simp⟩,zK _ _ (.inr rfl) _ [_,_],.inl rfl⟩
   simp only[go_sem];refine⟨_,_,⟨Tryz.app6 (by omega),rfl,rfl⟩,?_⟩;simp only[go_sem];refine⟨m,_,by omega,?_,nd.addKids [x,y],q5,k+1,false,_,hl,by rw[Hs];simp;omega,by rw[FD];exact hnm,rfl,by rw[j7,wj,uQ,yp,Hs,xmA];rfl⟩;exact qv
  | false =>
   unfold Ye at hb;simp only[Yd,if_false,xoM] at hb;obtain⟨t,h6,h7⟩:=hb;unfold qg;simp only[go_sem];refine Zy h6 (ze hp) ?_;simp only[go_sem,h7,hhw];try (unfold zd;simp only[qc])
   refine Jk (p':=q1) (n:=Int.tdiv nd.kids.length 2) (by simpa using h8) (ze hp) fun _=>?_;simp only[go_sem,zb hp];try (unfold zd;simp only[qc])
   refine Z6 hT h9 (ze hp) fun _=>?_;simp only[go_sem,zb hp];try (unfold zd;simp only[qc])
   refine WI hpt rfl h10 (ze hp) ?_;simp only[go_sem,zb hp];try (unfold zd;simp only[qc])
   refine Z6 hT h11 (ze hp) fun _=>?_;simp only[go_sem,zb hp];refine zA [] [(0,[6]),(0,[6]),(0,[6]),(0,[]),(3,[6]),(0,[]),(3,[8]),(0,[]),(1,[9])] mixed rfl ?_;simp only[go_sem,qu];refine⟨_,_,WQ hT he _ _ _ h12 _ _ (ze hp) ⟨rfl,rfl⟩,?_⟩;simp only[go_sem,zb hp];rw[zp];refine⟨.slice .full 6 [zq x,zq y],?_,?_⟩
   ·simp only[go_sem];exact⟨⟨[],by simp⟩,zK _ _ (.inr rfl) _ [_,_],.inl rfl⟩
   simp only[go_sem];refine⟨_,_,⟨Tryz.app6 (by omega),rfl,rfl⟩,?_⟩;simp only[go_sem];refine⟨m,_,by omega,?_,nd.addKids [x,y],q5,k+1,false,_,hl,by rw[Hs];simp;omega,by rw[FD];exact hnm,rfl,by rw[j7,wj,uQ,yp,Hs,xmA];rfl⟩;exact qv
end Go.Proofs
