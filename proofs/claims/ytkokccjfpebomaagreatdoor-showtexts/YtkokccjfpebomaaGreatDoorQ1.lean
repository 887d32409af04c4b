/- app. -/
import Derived.Test.YtkokccjfpebomaaGreatDoorN7
set_option linter.all false
set_option maxHeartbeats 4000000
set_option maxRecDepth 8000
namespace Go.Proofs
open Go Go.AL Tryz
theorem CY(s:Tx):∃ n:Nat,(qT s).2=n∧n≤2:=by
 unfold qT;repeat (first | split | exact⟨1,rfl,by omega⟩ | exact⟨2,rfl,by omega⟩ | exact⟨0,rfl,by omega⟩)
theorem l3{T:List Tk}(hT:T.length≤100000){pid:Nat}{e pt:PM Nd}(he:HC T pid 79 e)(hpt:HC T pid 170 pt){p p':PS}{t:Tk}{r:Nd}(h1:zE T p=some t)(hc:t.kind=6∧0<(qT t.text).1)
  (h:((ZG T p).bind fun r=>Xs T e pt (qT t.text).2.toNat (zr (qT t.text).1 t.pos [] []) r.2)=some (r,p')) {K:SV→St→Prop} {st:St} (hp:W8 T pid p st) (hk:K (zq r) (st.set pid (.cells (Qa T p')))):ACalls prog 140 [.ptr pid 0] K st:=by
 obtain⟨many,hm1,hm2⟩:=CY t.text;rw[hm1] at h;simp only[xoB,xpX,Int.toNat_natCast] at h;obtain⟨t1,p1,h2,h⟩:=h;have c1:(t.kind==6)=true:=by simp[hc.1]
 have c2:decide (0<(qT t.text).1)=true:=by simp[hc.2]
 refine zw (zl [] func140 rfl results140 ntmps140 ?_);simp only[go_sem];refine qd h1 (zo hp) ?_;simp only[go_sem];refine FW ?_;simp only[go_sem,c1,c2,gt_iff_lt,hm1];try (unfold zd;simp only[qc])
 refine QT hT h2 (zo hp) ?_;simp only[go_sem,zb hp];try (unfold zd;simp only[qc])
 refine Xx rfl rfl rfl rfl (fun _=>rfl) (zQ (.inr rfl) (fun x hx=>by cases hx)) ?_;unfold Q8;simp only[go_sem,zb hp];refine Z2 (st.length+2) 5 6 0 (Za 2) (by simp) rfl ?_;rw[Qu];simp only[xlA,Xv,xlC,xlN,xsS,xsZ,xaA,xcA,xnA,Nat.zero_add,Nat.reduceAdd];refine zt [] (fun m env s=>∃ (nd:Nd) (q:PS) (k j:Nat) (b:Ob) (ex:St),Xs T e pt m nd q=some (r,p')∧j+m=many∧nd.kids.length≤j∧nd.names=[]∧env=(.ptr pid 0 :: .any :: .ptr st.length 0 :: .any :: .any :: .any :: .ptr (st.length+2) 0 :: .any :: .any :: .any::XQ (X3 (.sc (.int .i64 (qT t.text).2) :: .sc (.int .i64 j) :: .any :: .any::XQ (XD [])))) ∧
  s=st.set pid (.cells (Qa T q))++(.cells qu::b :: .cells (qg (st.length+3) k nd) :: .tok k::ex)) (n:=many) ?_ ⟨_,_,0,0,_,[],h,by omega,by simp[zr,Nd.kids],rfl,rfl,rfl⟩ ?_
 ·exact qv
 rintro m env s ⟨nd,q,k,j,b,ex,hl,hm,hkn,hnm,rfl,rfl⟩;cases m with
 | zero =>
  have c3:decide ((j:Int)<(qT t.text).2)=false:=by rw[hm1];simp;omega
  cases hl;unfold qg qu;simp only[go_sem,c3];exact VC hk hnm
 | succ m =>
  have c3:decide ((j:Int)<(qT t.text).2)=true:=by rw[hm1];simp;omega
  have hw:IntKind.i64.wrap ((j:Int)+1)=((j+1:Nat):Int):=by rw[IntWalk.i64_in _ (by omega)];rfl
  simp only[Xs,xoB,xpX] at hl;obtain⟨x,q1,h4,hl⟩:=hl;unfold qg;simp only[go_sem,c3];refine zA [] [(0,[5]),(0,[5]),(0,[]),(3,[5]),(0,[]),(3,[7]),(0,[]),(1,[8])] mixed rfl ?_;simp only[go_sem,qu];refine⟨_,_,HY hT he hpt _ _ _ h4 _ _ (ze hp) ⟨rfl,rfl⟩,?_⟩;simp only[go_sem,zb hp];rw[zp];refine⟨.slice .full 6 [zq x],?_,?_⟩
  ·simp only[go_sem];exact⟨⟨[],by simp⟩,zK _ _ (.inr rfl) _ [_],.inl rfl⟩
  simp only[go_sem];refine⟨_,_,⟨Tryz.app6 (by omega),rfl,rfl⟩,?_⟩;simp only[go_sem,hw];refine⟨m,_,by omega,?_,nd.addKid x,q1,k+1,j+1,b,_,hl,by omega,by rw[zM];simp;omega,by rw[qb];exact hnm,rfl,by rw[qK,qI,Zo,Zn,zM,xmA];rfl⟩;exact qv
theorem DT{t:Tk}(h:t.kind=4)(s:Tx):isT t s=false:=by
 unfold isT;simp[h]
theorem aO{T:List Tk}(hT:T.length≤100000){pid:Nat}{e pt:PM Nd}(he:HC T pid 79 e)(hpt:HC T pid 170 pt){p p':PS}{t0:Tk}{r:Nd}(h1:zE T p=some t0)(hc:t0.kind=4)
  (h:((ZV T e pt p).bind fun r=>YM T e pt (T.length+2) true r.1 r.2)=some (r,p')) {K:SV→St→Prop} {st:St} (hp:W8 T pid p st) (hk:K (zq r) (st.set pid (.cells (Qa T p')))):ACalls prog 140 [.ptr pid 0] K st:=by
 simp only[xoB,xpX] at h;obtain⟨n0,p1,h2,h⟩:=h;have hl0:XC T [(1,1),(2,2),(3,4),(4,5)] p=some (n0,p1):=by
  unfold ZV at h2;rw[h1] at h2;simp only[xbS,DT hc,Yd,if_false] at h2;exact h2
 have hnm0:=Jr hl0;have c1:(t0.kind==6)=false:=by simp[hc]
 have c0:(t0.kind==4)=true:=by simp[hc]
 refine zw (zl [] func140 rfl results140 ntmps140 ?_);simp only[go_sem];refine qd h1 (zo hp) ?_;simp only[go_sem];refine FW ?_;simp only[go_sem,c1];try (unfold zd;simp only[qc])
 refine xb hT h1 (DT hc _) (DT hc _) (DT hc _) (DT hc _) hl0 (zo hp) ?_;rw[LB hnm0];simp only[go_sem,zb hp];refine Z2 (st.length+2) 5 6 0 (Za 2) (by simp) rfl ?_;rw[Qu];simp only[xlA,Xv,xlC,xlN,xsS,xsZ,xaA,xcA,xnA,Nat.zero_add,Nat.reduceAdd];refine zt [] (fun m env s=>∃ (nd:Nd) (q:PS) (k:Nat) (b:Ob) (ex:St),YM T e pt m true nd q=some (r,p')∧m+nd.kids.length≤T.length+2∧nd.names=[]∧env=(.ptr pid 0 :: .any :: .ptr st.length 0::XQ (.ptr (st.length+2) 0 :: .sc (.bool (t0.kind==4)) :: .any::XQ (JW (X3 (XD []))))) ∧
  s=st.set pid (.cells (Qa T q))++(.cells qu::b :: .cells (qg (st.length+3) k nd) :: .tok k::ex)) (n:=T.length+2) ?_ ⟨n0,_,0,_,[],h,by rw[hnm0.2];simp,hnm0.1,rfl,by unfold qg;rw[hnm0.2];rfl⟩ ?_
 ·exact qv
 rintro m env s ⟨nd,q,k,b,ex,hl,hm,hnm,rfl,rfl⟩;cases m with
 | zero=>cases hl
 | succ m =>
 simp only[YM,xoB] at hl;obtain⟨t,ht,hl⟩:=hl;cases hb:qx t with
 | false =>
  rw[hb] at hl;simp only[Yd,if_false,xsJ,xpJ] at hl;obtain⟨rfl,rfl⟩:=hl;unfold qg qu;simp only[go_sem];refine Wc ht (ze hp) ?_;simp only[go_sem,hb];exact VC hk hnm
 | true =>
  rw[hb] at hl;simp only[if_true,xoB,xpX] at hl;obtain⟨q1,h3,x,q2,h4,hl⟩:=hl;unfold qg;simp only[go_sem];refine Wc ht (ze hp) ?_;simp only[go_sem,hb,c0];refine Jk (p':=q1) (n:=nd.kids.length) (by simpa using h3) (ze hp) fun _=>?_;simp only[go_sem,zb hp];refine zA [] [(0,[5]),(0,[5]),(0,[]),(3,[5]),(0,[]),(3,[7]),(0,[]),(1,[8])] mixed rfl ?_;simp only[go_sem,qu];refine⟨_,_,HY hT he hpt _ _ _ h4 _ _ (ze hp) ⟨rfl,rfl⟩,?_⟩;simp only[go_sem,zb hp];rw[zp];refine⟨.slice .full 6 [zq x],?_,?_⟩
  ·simp only[go_sem];exact⟨⟨[],by simp⟩,zK _ _ (.inr rfl) _ [_],.inl rfl⟩
  simp only[go_sem];refine⟨_,_,⟨Tryz.app6 (by omega),rfl,rfl⟩,?_⟩;simp only[go_sem];refine⟨m,_,by omega,?_,nd.addKid x,q2,k+1,b,_,hl,by rw[zM];simp;omega,by rw[qb];exact hnm,rfl,by rw[qK,qI,Zo,Zn,zM,xmA];rfl⟩;exact qv
theorem DJ(n:Nd):List.drop 6 (zq n).cells=[]:=by rw[za];rfl
theorem QO(n:Nd):List.drop 3 (zq n).cells=[.sc (.int .i64 n.pos),.slice .imm 1 (n.names.map z8),.slice .imm 6 (n.kids.map zq)]:=by rw[za];rfl
theorem lA{T:List Tk}(hT:T.length≤100000){pid:Nat}{e pt:PM Nd}(he:HC T pid 79 e)(hpt:HC T pid 170 pt){p p':PS}{t0:Tk}{r:Nd}(h1:zE T p=some t0)(hc:¬ (t0.kind=6∧0<(qT t0.text).1))(hc4:¬ t0.kind=4)
  (h:((ZV T e pt p).bind fun r=>YM T e pt (T.length+2) false r.1 r.2)=some (r,p')) {K:SV→St→Prop} {st:St} (hp:W8 T pid p st) (hk:K (zq r) (st.set pid (.cells (Qa T p')))):ACalls prog 140 [.ptr pid 0] K st:=by
 simp only[xoB,xpX] at h;obtain⟨n0,p1,h2,h⟩:=h;have c0:(t0.kind==4)=false:=by simp[hc4]
 refine zw (zl [] func140 rfl results140 ntmps140 ?_);by_cases h6:t0.kind=6
 ·have c1:(t0.kind==6)=true:=by simp[h6]
  have c2:decide (0<(qT t0.text).1)=false:=by simp;exact Int.not_lt.1 fun h=>hc ⟨h6,h⟩
  simp only[go_sem];refine qd h1 (zo hp) ?_;simp only[go_sem];refine FW ?_;simp only[go_sem,c1,c2,gt_iff_lt];try (unfold zd;simp only[qc])
  refine HY hT he hpt _ _ _ h2 _ _ (zo hp) ?_;simp only[go_sem,zb hp];refine zt [] (fun m env s=>∃ (nd:Nd) (q:PS) (b:Ob) (ex:St),YM T e pt m false nd q=some (r,p')∧env=(.ptr pid 0 :: .any :: .ptr st.length 0::XQ (.ptr (st.length+2) 0 :: .sc (.bool (t0.kind==4)) :: .any::XQ (JW (X3 (XD []))))) ∧
   s=st.set pid (.cells (Qa T q))++(.cells qu::b :: .cells (zq nd).cells::ex)) (n:=T.length+2) ?_ ⟨n0,_,_,[],h,rfl,rfl⟩ ?_
  ·exact qv
  rintro m env s ⟨nd,q,b,ex,hl,rfl,rfl⟩;cases m with
  | zero=>cases hl
  | succ m =>
  simp only[YM,xoB] at hl;obtain⟨t,ht,hl⟩:=hl;cases hb:qx t with
  | false =>
   rw[hb] at hl;simp only[Yd,if_false,xsJ,xpJ] at hl;obtain⟨rfl,rfl⟩:=hl;unfold qu;simp only[go_sem];refine Wc ht (ze hp) ?_;simp only[go_sem,hb];exact Zs hk
  | true =>
   rw[hb] at hl;simp only[if_true,Yd,if_false,xoB,xpX] at hl;obtain⟨x,q2,h4,hl⟩:=hl;simp only[go_sem];refine Wc ht (ze hp) ?_;simp only[go_sem,hb,c0];refine zA [] [(0,[6]),(0,[6]),(0,[6]),(0,[]),(3,[6]),(0,[]),(3,[7]),(1,[8])] mixed rfl ?_;simp only[go_sem,qu,QO];refine⟨_,_,HY hT he hpt _ _ _ h4 _ _ (ze hp) ⟨rfl,rfl⟩,?_⟩;simp only[go_sem,zb hp,QO];rw[zp];refine⟨.slice .full 6 [zq nd,zq x],?_,?_⟩
   ·simp only[go_sem];exact⟨⟨[],by simp⟩,zK _ _ (.inr rfl) _ [_,_],.inl rfl⟩
   refine⟨_,_,Vs (kids:=[nd,x]) (.inl rfl) ⟨rfl,rfl⟩,?_⟩;simp only[go_sem,zb hp,DJ,xaN];refine⟨m,_,by omega,?_,zr 7 nd.pos [] [nd,x],q2,b,_,hl,rfl,rfl⟩;simp only[c0];exact qv
 ·have c1:(t0.kind==6)=false:=by simp[h6]
  simp only[go_sem];refine qd h1 (zo hp) ?_;simp only[go_sem];refine FW ?_;simp only[go_sem,c1];try (unfold zd;simp only[qc])
  refine HY hT he hpt _ _ _ h2 _ _ (zo hp) ?_;simp only[go_sem,zb hp];refine zt [] (fun m env s=>∃ (nd:Nd) (q:PS) (b:Ob) (ex:St),YM T e pt m false nd q=some (r,p')∧env=(.ptr pid 0 :: .any :: .ptr st.length 0::XQ (.ptr (st.length+2) 0 :: .sc (.bool (t0.kind==4)) :: .any::XQ (JW (X3 (XD []))))) ∧
   s=st.set pid (.cells (Qa T q))++(.cells qu::b :: .cells (zq nd).cells::ex)) (n:=T.length+2) ?_ ⟨n0,_,_,[],h,rfl,rfl⟩ ?_
  ·exact qv
  rintro m env s ⟨nd,q,b,ex,hl,rfl,rfl⟩;cases m with
  | zero=>cases hl
  | succ m =>
  simp only[YM,xoB] at hl;obtain⟨t,ht,hl⟩:=hl;cases hb:qx t with
  | false =>
   rw[hb] at hl;simp only[Yd,if_false,xsJ,xpJ] at hl;obtain⟨rfl,rfl⟩:=hl;unfold qu;simp only[go_sem];refine Wc ht (ze hp) ?_;simp only[go_sem,hb];exact Zs hk
  | true =>
   rw[hb] at hl;simp only[if_true,Yd,if_false,xoB,xpX] at hl;obtain⟨x,q2,h4,hl⟩:=hl;simp only[go_sem];refine Wc ht (ze hp) ?_;simp only[go_sem,hb,c0];refine zA [] [(0,[6]),(0,[6]),(0,[6]),(0,[]),(3,[6]),(0,[]),(3,[7]),(1,[8])] mixed rfl ?_;simp only[go_sem,qu,QO];refine⟨_,_,HY hT he hpt _ _ _ h4 _ _ (ze hp) ⟨rfl,rfl⟩,?_⟩;simp only[go_sem,zb hp,QO];rw[zp];refine⟨.slice .full 6 [zq nd,zq x],?_,?_⟩
   ·simp only[go_sem];exact⟨⟨[],by simp⟩,zK _ _ (.inr rfl) _ [_,_],.inl rfl⟩
   refine⟨_,_,Vs (kids:=[nd,x]) (.inl rfl) ⟨rfl,rfl⟩,?_⟩;simp only[go_sem,zb hp,DJ,xaN];refine⟨m,_,by omega,?_,zr 7 nd.pos [] [nd,x],q2,b,_,hl,rfl,rfl⟩;simp only[c0];exact qv
theorem Ay{T:List Tk}(hT:T.length≤100000){pid:Nat}{e pt:PM Nd}(he:HC T pid 79 e)(hpt:HC T pid 170 pt):HC T pid 140 (JD T e pt):=by
 intro p r p' h K st hp hk;unfold JD at h;rw[xoB] at h;obtain⟨t,h1,h⟩:=h;by_cases hc:t.kind=6∧0<(qT t.text).1
 ·rw[if_pos hc] at h;exact l3 hT he hpt h1 hc h hp hk
 ·rw[if_neg hc] at h;by_cases h4:t.kind=4
  ·rw[show (t.kind==4)=true by simp[h4]] at h;exact aO hT he hpt h1 h4 h hp hk
  ·rw[show (t.kind==4)=false by simp[h4]] at h;exact lA hT he hpt h1 hc h4 h hp hk
def HS(T:List Tk)(pid:Nat)(signs:List Tx)(e:PM Nd):Prop:=∀ (p:PS) (r:Nd) (p':PS),e p=some (r,p')→∀ (K:SV→St→Prop) (st:St),W8 T pid p st→K (zq r) (st.set pid (.cells (Qa T p')))→ACalls prog 126 [.ptr pid 0,.slice .full 1 (signs.map z8)] K st
def HP(T:List Tk)(pid:Nat)(signs:List Tx)(e:PM Nd):Prop:=∀ (p:PS) (r:Nd) (p':PS),e p=some (r,p')→∀ (K:SV→St→Prop) (st:St),W8 T pid p st→K (zq r) (st.set pid (.cells (Qa T p')))→ACalls prog 139 [.ref [.slice .full 1 (signs.map z8)],.ref [.ptr pid 0]] K st
def eC(st ex:St)(tid:Nat)(t:Tk):Prop:=∃ j,tid=st.length+2+j∧ex[j]?=some (.cells (ZC t).cells)
theorem wN{st ex:St}{tid:Nat}{t:Tk}(h:eC st ex tid t)(pid:Nat)(X:Ob)(a b:Ob):HT (st.set pid X++a::b::ex) tid=True∧Qd (st.set pid X++a::b::ex) tid=True ∧
  Zl (st.set pid X++a::b::ex) tid=[.sc (.int .i64 t.kind),.sc (.string (ba t.text)),.sc (.int .i64 t.num),.sc (.int .i64 t.pos)]:=by
 obtain⟨j,rfl,hj⟩:=h;refine zF ?_;rw[List.getElem?_append_right (by simp;omega)];simp only[List.length_set,show st.length+2+j-st.length=j+1+1 by omega,List.getElem?_cons_succ];exact hj
theorem dz{T:List Tk}(hT:T.length≤100000){pid:Nat}{signs:List Tx}(hs:signs.length≤1000000){part:PM Nd}(hpart:HP T pid signs part):HS T pid signs (J1 T part signs):=by
 intro p r p' h K st hp hk;refine zw (zl [] func126 rfl results126 ntmps126 ?_);unfold J1 at h;simp only[xoB,xpX] at h;obtain⟨n0,p1,h1,t0,h2,h⟩:=h;simp only[go_sem];refine hpart _ _ _ h1 _ _ (zo hp) ?_;simp only[go_sem,zb hp];try (unfold zd;simp only[qc])
 refine qd h2 (ze hp) ?_;simp only[go_sem,zb hp];refine zt [] (fun m env s=>∃ (t:Tk) (nd:Nd) (q:PS) (tid:Nat) (ex:St),J0 T part signs m t nd q=some (r,p')∧eC st ex tid t∧env=(.any :: .any :: .ref [.ptr pid 0] :: .ref [.slice .full 1 (signs.map z8)] :: .ptr st.length 0 :: .func (.func 139) [] [.ref [.slice .full 1 (signs.map z8)],.ref [.ptr pid 0]] :: .ptr (st.length+1) 0 :: .ptr tid 0 :: .any::XQ (JW (X3 []))) ∧
  s=st.set pid (.cells (Qa T q))++(.cells qu :: .cells (zq nd).cells::ex)) (n:=T.length+2) ?_ ⟨t0,n0,_,st.length+2,_,h,⟨0,rfl,rfl⟩,rfl,rfl⟩ ?_
 ·exact qv
 rintro m env s ⟨t,nd,q,tid,ex,hl,htok,rfl,rfl⟩;cases m with
 | zero=>cases hl
 | succ m =>
 simp only[J0] at hl;have yt:=wN htok pid;have y1:=fun X a b=>(yt X a b).1;have y2:=fun X a b=>(yt X a b).2.1;have y3:=fun X a b=>(yt X a b).2.2;by_cases hc:t.kind=5
 ·have c1:(t.kind==5)=true:=by simp[hc]
  by_cases hm:t.text∈signs
  ·have c2:decide (t.text∈signs)=true:=by simp[hm]
   rw[if_pos ⟨hc,hm⟩] at hl;simp only[xoB,xpX] at hl;obtain⟨t1,q1,h4,x,q2,h5,t2,h6,hl⟩:=hl;simp only[go_sem,y1,y2,y3,c1];refine GS hs ?_;simp only[go_sem,y1,y2,y3,c1,c2];try (unfold zd;simp only[qc])
   refine QT hT h4 (ze hp) ?_;simp only[go_sem,zb hp,y1,y2,y3];refine zA [] [(0,[8]),(0,[8]),(0,[8]),(0,[8]),(0,[8]),(0,[]),(3,[8]),(0,[]),(3,[9]),(1,[10])] mixed rfl ?_;simp only[go_sem,qu,QO,y1,y2,y3];refine⟨_,_,hpart _ _ _ h5 _ _ (ze hp) ⟨rfl,rfl⟩,?_⟩;simp only[go_sem,zb hp,QO,y1,y2,y3];rw[zp];refine⟨.slice .full 6 [zq nd,zq x],?_,?_⟩
   ·simp only[go_sem];exact⟨⟨[],by simp⟩,zK _ _ (.inr rfl) _ [_,_],.inl rfl⟩
   refine⟨_,_,Vs (kids:=[nd,x]) (.inl rfl) ⟨rfl,rfl⟩,?_⟩;simp only[go_sem,zb hp,DJ,xaN,y1,y2,y3];refine qd h6 (ze hp) ?_;simp only[go_sem,zb hp,y1,y2,y3];refine⟨m,_,by omega,?_,t2,zr 13 nd.pos t.text [nd,x],q2,st.length+(ex.length+2),_,hl,⟨ex.length,by omega,by simp;rfl⟩,rfl,rfl⟩;exact qv
  ·have c2:decide (t.text∈signs)=false:=by simp[hm]
   rw[if_neg (fun h=>hm h.2)] at hl;simp only[xsJ,xpJ] at hl;obtain⟨rfl,rfl⟩:=hl;unfold qu;simp only[go_sem,y1,y2,y3,c1];refine GS hs ?_;simp only[go_sem,y1,y2,y3,c1,c2];exact Zs hk
 ·have c1:(t.kind==5)=false:=by simp[hc]
  rw[if_neg (fun h=>hc h.1)] at hl;simp only[xsJ,xpJ] at hl;obtain⟨rfl,rfl⟩:=hl;unfold qu;simp only[go_sem,y1,y2,y3,c1];exact Zs hk
theorem tq{T:List Tk}{pid:Nat}{e:PM Nd}(he:HC T pid 140 e):HP T pid VJ e:=by
 intro p r p' h K st hp hk;refine zw (zl [] func139 rfl results139 ntmps139 ?_);unfold VJ z8;simp only[go_sem,List.map_cons,List.map_nil];refine⟨by decide,fun _=>?_,fun h=>absurd h (by decide)⟩;refine he _ _ _ h _ _ (zo hp) ?_;simp only[go_sem,zb hp];exact Zs hk
theorem fH{T:List Tk}{pid:Nat}{e:PM Nd}(he:HS T pid VJ e):HP T pid signsP e:=by
 intro p r p' h K st hp hk;refine zw (zl [] func139 rfl results139 ntmps139 ?_);unfold signsP z8;simp only[go_sem,List.map_cons,List.map_nil];refine⟨by decide,fun h=>absurd h (by decide),fun _=>?_⟩;refine he _ _ _ h _ _ (zo hp) ?_;simp only[go_sem,zb hp];exact Zs hk
theorem Cw{T:List Tk}(hT:T.length≤100000){pid:Nat}{e pt:PM Nd}(he:HC T pid 79 e)(hpt:HC T pid 170 pt):HS T pid signsP (E4 T e pt) :=
 dz hT (by decide) (fH (dz hT (by decide) (tq (Ay hT he hpt))))
theorem Fo{T:List Tk}(hT:T.length≤100000){pid:Nat}{e pt:PM Nd}(he:HC T pid 79 e)(hpt:HC T pid 170 pt):HC T pid 108 (W7 T e pt):=by
 intro p r p' h K st hp hk;have hs:=Cw hT he hpt;refine zw (zl [] func108 rfl results108 ntmps108 ?_);unfold W7 at h;simp only[xoB,xpX] at h;obtain⟨n0,p1,h1,t,h2,h⟩:=h;cases b1:isT t [61] with
 | true =>
  rw[if_pos (.inl b1)] at h;simp only[xoB,xoM,xpX,xpJ] at h;obtain⟨t1,p2,h3,x,p3,h4,rfl,rfl⟩:=h;simp only[go_sem];refine hs _ _ _ h1 _ _ (zo hp) ?_;simp only[go_sem,zb hp];try (unfold zd;simp only[qc])
  refine qd h2 (ze hp) ?_;simp only[go_sem,zb hp];try (unfold zd;simp only[qc])
  refine Zy h2 (ze hp) ?_;simp only[go_sem,zb hp,b1];try (unfold zd;simp only[qc])
  refine QT hT h3 (ze hp) ?_;simp only[go_sem,zb hp];refine zA [] [(0,[9]),(0,[9]),(0,[9]),(0,[9]),(0,[9]),(0,[]),(0,[]),(3,[9]),(0,[]),(3,[10]),(1,[11])] mixed rfl ?_;simp only[go_sem,QO];rw[zp];refine⟨.slice .full 1 (signsP.map z8),?_,?_⟩
  ·simp only[go_sem];exact⟨⟨[],by simp⟩,ZX _ _ (.inr rfl) _ _,.inl rfl⟩
  refine⟨_,_,hs _ _ _ h4 _ _ (ze hp) ⟨rfl,rfl⟩,?_⟩;simp only[go_sem,zb hp,QO];rw[zp];refine⟨.slice .full 6 [zq n0,zq x],?_,?_⟩
  ·simp only[go_sem];exact⟨⟨[],by simp⟩,zK _ _ (.inr rfl) _ [_,_],.inl rfl⟩
  refine⟨_,_,Vs (kids:=[n0,x]) (.inl rfl) ⟨rfl,rfl⟩,?_⟩;simp only[go_sem,zb hp];exact Zs hk
 | false =>
 cases b2:isT t [60] with
 | true =>
  rw[if_pos (.inr b2)] at h;simp only[xoB,xoM,xpX,xpJ] at h;obtain⟨t1,p2,h3,x,p3,h4,rfl,rfl⟩:=h;simp only[go_sem];refine hs _ _ _ h1 _ _ (zo hp) ?_;simp only[go_sem,zb hp];try (unfold zd;simp only[qc])
  refine qd h2 (ze hp) ?_;simp only[go_sem,zb hp];try (unfold zd;simp only[qc])
  refine Zy h2 (ze hp) ?_;simp only[go_sem,zb hp,b1];try (unfold zd;simp only[qc])
  refine Zy h2 (ze hp) ?_;simp only[go_sem,zb hp,b1,b2];try (unfold zd;simp only[qc])
  refine QT hT h3 (ze hp) ?_;simp only[go_sem,zb hp];refine zA [] [(0,[9]),(0,[9]),(0,[9]),(0,[9]),(0,[9]),(0,[]),(0,[]),(3,[9]),(0,[]),(3,[10]),(1,[11])] mixed rfl ?_;simp only[go_sem,QO];rw[zp];refine⟨.slice .full 1 (signsP.map z8),?_,?_⟩
  ·simp only[go_sem];exact⟨⟨[],by simp⟩,ZX _ _ (.inr rfl) _ _,.inl rfl⟩
  refine⟨_,_,hs _ _ _ h4 _ _ (ze hp) ⟨rfl,rfl⟩,?_⟩;simp only[go_sem,zb hp,QO];rw[zp];refine⟨.slice .full 6 [zq n0,zq x],?_,?_⟩
  ·simp only[go_sem];exact⟨⟨[],by simp⟩,zK _ _ (.inr rfl) _ [_,_],.inl rfl⟩
  refine⟨_,_,Vs (kids:=[n0,x]) (.inl rfl) ⟨rfl,rfl⟩,?_⟩;simp only[go_sem,zb hp];exact Zs hk
 | false =>
  rw[if_neg (by simp[b1,b2])] at h;simp only[xsJ,xpJ] at h;obtain⟨rfl,rfl⟩:=h;simp only[go_sem];refine hs _ _ _ h1 _ _ (zo hp) ?_;simp only[go_sem,zb hp];try (unfold zd;simp only[qc])
  refine qd h2 (ze hp) ?_;simp only[go_sem,zb hp];try (unfold zd;simp only[qc])
  refine Zy h2 (ze hp) ?_;simp only[go_sem,zb hp,b1];try (unfold zd;simp only[qc])
  refine Zy h2 (ze hp) ?_;simp only[go_sem,zb hp,b1,b2];exact Zs hk
end Go.Proofs
